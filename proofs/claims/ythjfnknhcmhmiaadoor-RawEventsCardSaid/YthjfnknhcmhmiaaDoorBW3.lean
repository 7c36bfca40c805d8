/-
  What the code computes: plain functions, and the walks.: the walks, part 3.
-/
import Derived.Test.YthjfnknhcmhmiaaDoorBW2
set_option linter.unusedVariables false
set_option linter.unusedSimpArgs false
set_option maxRecDepth 10000
set_option maxHeartbeats 1000000
set_option synthInstance.maxHeartbeats 400000
set_option synthInstance.maxSize 2000
namespace Go.Proofs.YthjfnknhcmhmiaaDoor
open Go Go.RowKit Sl

theorem Law_RawEvents_c {w0 w : World} {K : Hp} {L : List SP} {p1 : raw_Event} {p6 : raw_Event} {v2 : Value} {v4 : Value} {v7 : Value} {v9 : Value} {r : Bool} (hG : Glob w0) (h : Law_RawEvents p1 p6 = some r) (f3 : Kd.u8.sl K v2 p1.f_Bytes) (f5 : (Kd.int .i64).sl K v4 p1.f_Marks) (f8 : Kd.u8.sl K v7 p6.f_Bytes) (f10 : (Kd.int .i64).sl K v9 p6.f_Marks) (hM : Sat w0 w K (L)) :
    Calls Tryd.prog 4 #[Value.agg #[Value.int .i64 (p1.f_Kind), Value.int .i64 (p1.f_N), v2, v4], Value.agg #[Value.int .i64 (p6.f_Kind), Value.int .i64 (p6.f_N), v7, v9]] w (fun e w' => ∃ (K' : Hp), Hp.le K K' ∧ Sat w0 w' K' (L) ∧ e = .returned (Value.bool (r))) := by
  refine enter_ (n := 103) (args := [Value.agg #[Value.int .i64 (p1.f_Kind), Value.int .i64 (p1.f_N), v2, v4], Value.agg #[Value.int .i64 (p6.f_Kind), Value.int .i64 (p6.f_N), v7, v9]]) Tryd.func4 rfl rfl (Nat.le_of_ble_eq_true rfl) fun a hS => ?_
  replace hS : Slots 103 [] a [(0, Value.agg #[Value.int .i64 (p1.f_Kind), Value.int .i64 (p1.f_N), v2, v4]), (1, Value.agg #[Value.int .i64 (p6.f_Kind), Value.int .i64 (p6.f_N), v7, v9])] := hS
  unfold Law_RawEvents at h
  refine wp_seq ?_
  refine wp_region_lit ?_
  refine wl_cons rfl (e_box (cs := [Value.int .i64 (p1.f_Kind), Value.int .i64 (p1.f_N), v2, v4]) hM rfl (hS.ev_ rfl) rfl fun g11 w hM => ?_)
  refine pl hS rfl (by decide) fun a hS => ?_
  refine wl_cons rfl (e_box (cs := [Value.int .i64 (p6.f_Kind), Value.int .i64 (p6.f_N), v7, v9]) hM rfl (hS.ev_ rfl) rfl fun g13 w hM => ?_)
  refine pl hS rfl (by decide) fun a hS => ?_
  refine st_val hS rfl rfl (by decide) (r_assign rfl (hS.ev_ rfl)) fun a hS => ?_
  refine st_done ?_
  replace hS : Slots 103 [] a [(4, Value.bool (false)), (3, Value.pointer (some ⟨g13, 0, none⟩)), (2, Value.pointer (some ⟨g11, 0, none⟩))] := (hS.part (.cons rfl (.cons rfl (.cons rfl (.nil _)))))
  refine x_then ?_
  refine wp_seq ?_
  refine wp_seq ?_
  refine wp_region_lit ?_
  obtain ⟨y15, h16, h⟩ := bindO h
  have hc18 := Law_alive_c hG h16 hM
  refine wl_cons rfl (e_call rfl Tryd.func7 rfl rfl (args0 ) hc18 ?_)
  rintro _ w ⟨K17, hlK17, hM, rfl⟩
  refine ⟨_, rfl, ?_⟩
  refine pl hS rfl (by decide) fun a hS => ?_
  refine st_val hS rfl rfl (by decide) (r_not rfl (hS.ev_ rfl)) fun a hS => ?_
  refine st_done ?_
  replace hS : Slots 103 [] a [(16, Value.bool (!y15)), (4, Value.bool (false)), (3, Value.pointer (some ⟨g13, 0, none⟩)), (2, Value.pointer (some ⟨g11, 0, none⟩))] := (hS.part (.cons rfl (.cons rfl (.cons rfl (.cons rfl (.nil _))))))
  refine x_then ?_
  rcases ifB h with ⟨hc19, h⟩ | ⟨hc19, h⟩
  · refine c_cond_true (hS.ev_ rfl) hc19 ?_
    refine wp_seq ?_
    refine wp_region_lit ?_
    refine st_val hS rfl rfl (by decide) (r_assign rfl (hS.ev_ rfl)) fun a hS => ?_
    refine st_done ?_
    replace hS : Slots 103 [] a [(4, Value.bool (false)), (3, Value.pointer (some ⟨g13, 0, none⟩)), (2, Value.pointer (some ⟨g11, 0, none⟩))] := (hS.part (.cons rfl (.cons rfl (.cons rfl (.nil _)))))
    refine x_then ?_
    refine wp_ret ?_
    refine x_then_ret ?_
    have hr' := Option.some.inj h
    subst hr'
    refine ret1 (.inr rfl) hS rfl rfl ?_
    exact ⟨K17, hlK17, ((hM).tail).tail, rfl⟩
  · refine c_cond_false (hS.ev_ rfl) hc19 ?_
    refine wp_skip ?_
    refine x_then ?_
    refine wp_seq ?_
    refine wp_seq ?_
    refine wp_region_lit ?_
    replace hM := hM.pull 1 rfl rfl
    refine st_val hS rfl rfl (by decide) (r_ldN_b (cs' := [Value.int .i64 (p1.f_Kind), Value.int .i64 (p1.f_N), v2, v4]) rfl ag_25 ti_25 (hS.ev_ rfl) rfl (Rd.of hM)) fun a hS => ?_
    obtain ⟨y20, h21, h⟩ := bindO h
    have hc23 := Law_long_c hG h21 (Kd.sl_mono hlK17 f3) (Kd.sl_mono hlK17 f5) hM
    refine wl_cons rfl (e_call rfl Tryd.func8 rfl rfl (args1 (hS.ev_ rfl)) hc23 ?_)
    rintro _ w ⟨K22, hlK22, hM, rfl⟩
    refine ⟨_, rfl, ?_⟩
    refine pl hS rfl (by decide) fun a hS => ?_
    refine st_val hS rfl rfl (by decide) (r_move rfl (hS.ev_ rfl)) fun a hS => ?_
    obtain ⟨x25, h26, h⟩ := bindO h
    refine wl_cut 3 (fun a w => ∃ (K24 : Hp), Hp.le K22 K24 ∧ Slots 103 [] a [(2, Value.pointer (some ⟨g11, 0, none⟩)), (3, Value.pointer (some ⟨g13, 0, none⟩)), (4, Value.bool (false)), (22, Value.bool (x25))] ∧ Sat w0 w K24 (SP.blk g11 25 [Value.int .i64 (p1.f_Kind), Value.int .i64 (p1.f_N), v2, v4] :: SP.blk g13 25 [Value.int .i64 (p6.f_Kind), Value.int .i64 (p6.f_N), v7, v9] :: L)) ?_ ?_
    ·
      skip
      rcases ifB h26 with ⟨hc27, h26⟩ | ⟨hc27, h26⟩
      ·
        replace hS := hS.known (k := 19) rfl hc27
        refine st_off hS rfl rfl rfl rfl rfl rfl (by decide) fun a hS => ?_
        refine st_off hS rfl rfl rfl rfl rfl rfl (by decide) fun a hS => ?_
        refine st_val hS rfl rfl (by decide) (r_pick_true rfl (hS.ev_ rfl) rfl (hS.ev_ rfl)) fun a hS => ?_
        refine st_done ?_
        replace hS : Slots 103 [] a [(22, Value.bool (true)), (4, Value.bool (false)), (3, Value.pointer (some ⟨g13, 0, none⟩)), (2, Value.pointer (some ⟨g11, 0, none⟩))] := (hS.part (.cons rfl (.cons rfl (.cons rfl (.cons rfl (.nil _))))))
        refine x_then ?_
        obtain rfl := Option.some.inj h26
        exact ⟨K22, (Hp.le.refl _), (hS.part (.cons rfl (.cons rfl (.cons rfl (.cons rfl (.nil _)))))), ((hM.pull 1 rfl rfl).pull 1 rfl rfl)⟩
      ·
        replace hS := hS.known (k := 19) rfl hc27
        replace hM := hM.pull 1 rfl rfl
        refine st_want hS rfl rfl rfl rfl rfl (by decide) (r_ldN_b (cs' := [Value.int .i64 (p6.f_Kind), Value.int .i64 (p6.f_N), v7, v9]) rfl ag_25 ti_25 (hS.ev_ rfl) rfl (Rd.of hM)) fun a hS => ?_
        obtain ⟨y28, h29, h26⟩ := bindO h26
        have hc31 := Law_long_c hG h29 (Kd.sl_mono (hlK17.trans hlK22) f8) (Kd.sl_mono (hlK17.trans hlK22) f10) hM
        refine g_want hS rfl rfl rfl rfl (e_call rfl Tryd.func8 rfl rfl (args1 (hS.ev_ rfl)) hc31 ?_)
        rintro _ w ⟨K30, hlK30, hM, rfl⟩
        refine ⟨_, rfl, ?_⟩
        refine pl hS rfl (by decide) fun a hS => ?_
        refine st_val hS rfl rfl (by decide) (r_pick_false rfl (hS.ev_ rfl) rfl (hS.ev_ rfl)) fun a hS => ?_
        refine st_done ?_
        replace hS : Slots 103 [] a [(22, Value.bool (y28)), (4, Value.bool (false)), (3, Value.pointer (some ⟨g13, 0, none⟩)), (2, Value.pointer (some ⟨g11, 0, none⟩))] := (hS.part (.cons rfl (.cons rfl (.cons rfl (.cons rfl (.nil _))))))
        refine x_then ?_
        obtain rfl := Option.some.inj h26
        exact ⟨K30, hlK30, (hS.part (.cons rfl (.cons rfl (.cons rfl (.cons rfl (.nil _)))))), (hM.pull 1 rfl rfl)⟩
    · rintro a w ⟨K24, hlK24, hS, hM⟩
      refine st_done ?_
      replace hS : Slots 103 [] a [(2, Value.pointer (some ⟨g11, 0, none⟩)), (3, Value.pointer (some ⟨g13, 0, none⟩)), (4, Value.bool (false)), (22, Value.bool (x25))] := (hS.part (.cons rfl (.cons rfl (.cons rfl (.cons rfl (.nil _))))))
      refine x_then ?_
      rcases ifB h with ⟨hc32, h⟩ | ⟨hc32, h⟩
      · refine c_cond_true (hS.ev_ rfl) hc32 ?_
        refine wp_seq ?_
        refine wp_region_lit ?_
        refine st_val hS rfl rfl (by decide) (r_assign rfl (hS.ev_ rfl)) fun a hS => ?_
        refine st_done ?_
        replace hS : Slots 103 [] a [(4, Value.bool (true)), (2, Value.pointer (some ⟨g11, 0, none⟩)), (3, Value.pointer (some ⟨g13, 0, none⟩))] := (hS.part (.cons rfl (.cons rfl (.cons rfl (.nil _)))))
        refine x_then ?_
        refine wp_ret ?_
        refine x_then_ret ?_
        have hr' := Option.some.inj h
        subst hr'
        refine ret1 (.inr rfl) hS rfl rfl ?_
        exact ⟨K24, ((hlK17.trans hlK22).trans hlK24), ((hM).tail).tail, rfl⟩
      · refine c_cond_false (hS.ev_ rfl) hc32 ?_
        refine wp_skip ?_
        refine x_then ?_
        obtain ⟨x34, h35, h⟩ := bindO h
        refine c_cut (fun a w => ∃ (K33 : Hp) (g37 g41 : Nat) (v38 v42 : Value), Hp.le K24 K33 ∧ Slots 103 [] a [(2, Value.pointer (some ⟨g11, 0, none⟩)), (3, Value.pointer (some ⟨g13, 0, none⟩)), (4, Value.bool (false)), (5, Value.pointer (some ⟨g37, 0, none⟩)), (6, Value.pointer (some ⟨g41, 0, none⟩))] ∧ Sat w0 w K33 (SP.blk g37 36 [Value.int .i64 (x34.1), Value.int .i64 (x34.2.1), strV (x34.2.2.1), v38] :: SP.blk g41 36 [Value.int .i64 (x34.2.2.2.2.1), Value.int .i64 (x34.2.2.2.2.2.1), strV (x34.2.2.2.2.2.2.1), v42] :: SP.blk g11 25 [Value.int .i64 (p1.f_Kind), Value.int .i64 (p1.f_N), v2, v4] :: SP.blk g13 25 [Value.int .i64 (p6.f_Kind), Value.int .i64 (p6.f_N), v7, v9] :: L) ∧ (Kd.int .i64).sl K33 v38 x34.2.2.2.1 ∧ (Kd.int .i64).sl K33 v42 x34.2.2.2.2.2.2.2) ?_ ?_
        ·
          refine tk_start #[false, false, false, false, false, false, false, false] mixed_ rfl rfl ?_
          replace hM := hM.drew
          generalize w.drew = w at hM ⊢
          refine dk_val (i := 0) (S := Rd w0 K24 [SP.blk g11 25 [Value.int .i64 (p1.f_Kind), Value.int .i64 (p1.f_N), v2, v4]]) #[true, false, false, false, false, false, false, false] hS rfl (by kernel_rfl) rfl rfl (by decide) (Rd.of hM.only) (fun w hR => r_ldN_b (cs' := [Value.int .i64 (p1.f_Kind), Value.int .i64 (p1.f_N), v2, v4]) rfl ag_25 ti_25 (hS.ev_ rfl) rfl hR) fun a hS => ?_
          replace hM := hM.pull 1 rfl rfl
          refine dk_val (i := 2) (S := Rd w0 K24 [SP.blk g13 25 [Value.int .i64 (p6.f_Kind), Value.int .i64 (p6.f_N), v7, v9]]) #[true, false, true, false, false, false, false, false] hS rfl (by kernel_rfl) rfl rfl (by decide) (Rd.of hM.only) (fun w hR => r_ldN_b (cs' := [Value.int .i64 (p6.f_Kind), Value.int .i64 (p6.f_N), v7, v9]) rfl ag_25 ti_25 (hS.ev_ rfl) rfl hR) fun a hS => ?_
          refine dk_three (i := 1) (j := 4) (k := 5) #[true, true, true, false, false, false, false, false] #[true, false, true, false, true, false, false, false] #[true, false, true, false, false, true, false, false] rfl rfl rfl (by kernel_rfl) rfl rfl rfl ?_ ?_ ?_
          ·
            skip
            obtain ⟨y44, h45, h35⟩ := bindO h35
            have hc47 := Law_Of_c hG h45 (Kd.sl_mono ((hlK17.trans hlK22).trans hlK24) f3) (Kd.sl_mono ((hlK17.trans hlK22).trans hlK24) f5) hM
            refine e_call rfl Tryd.func13 rfl rfl (args1 (hS.ev_ rfl)) hc47 ?_
            rintro _ w ⟨K46, v48, hlK46, hM, rfl, f49⟩
            refine ⟨_, rfl, ?_⟩
            refine pT hS rfl (by decide) (Dem.keep (fun _ => Rd.up hlK46 hM.only) (Dem.wait (by kernel_rfl) Dem.nil)) fun a hS => ?_
            refine dk_three (i := 3) (j := 4) (k := 5) #[true, true, true, true, false, false, false, false] #[true, true, true, false, true, false, false, false] #[true, true, true, false, false, true, false, false] rfl rfl rfl (by kernel_rfl) rfl rfl rfl ?_ ?_ ?_
            ·
              skip
              obtain ⟨y50, h51, h35⟩ := bindO h35
              have hc53 := Law_Of_c hG h51 (Kd.sl_mono (((hlK17.trans hlK22).trans hlK24).trans hlK46) f8) (Kd.sl_mono (((hlK17.trans hlK22).trans hlK24).trans hlK46) f10) hM
              refine e_call rfl Tryd.func13 rfl rfl (args1 (hS.ev_ rfl)) hc53 ?_
              rintro _ w ⟨K52, v54, hlK52, hM, rfl, f55⟩
              refine ⟨_, rfl, ?_⟩
              refine pT hS rfl (by decide) (Dem.wait (by kernel_rfl) (Dem.wait (by kernel_rfl) Dem.nil)) fun a hS => ?_
              refine dk_two (i := 4) (j := 5) #[true, true, true, true, true, false, false, false] #[true, true, true, true, false, true, false, false] rfl rfl (by kernel_rfl) rfl rfl ?_ ?_
              ·
                skip
                refine e_alloc (cs := [Value.int .i64 (0), Value.int .i64 (0), strV (([] : List UInt8)), Value.slice none 0 0]) hM rfl ti_36 rfl fun g56 w hM => ?_
                refine pT hS rfl (by decide) (Dem.keep (fun _ => Rd.up (hlK46.trans hlK52) (hM.pull 1 rfl rfl).only) (Dem.keep (fun _ => Rd.up (hlK46.trans hlK52) (hM.pull 2 rfl rfl).only) Dem.nil)) fun a hS => ?_
                refine dk_one (i := 5) #[true, true, true, true, true, true, false, false] rfl (by kernel_rfl) rfl (e_alloc (cs := [Value.int .i64 (0), Value.int .i64 (0), strV (([] : List UInt8)), Value.slice none 0 0]) hM rfl ti_36 rfl fun g58 w hM => ?_)
                refine pT hS rfl (by decide) (Dem.keep (fun _ => Rd.up (hlK46.trans hlK52) (hM.pull 2 rfl rfl).only) (Dem.keep (fun _ => Rd.up (hlK46.trans hlK52) (hM.pull 3 rfl rfl).only) Dem.nil)) fun a hS => ?_
                replace hM := hM.pull 1 rfl rfl
                refine dk_one (i := 6) #[true, true, true, true, true, true, true, false] rfl (by kernel_rfl) rfl (e_storeN (vs := [Value.int .i64 (y44.f_Kind), Value.int .i64 (y44.f_N), strV (y44.f_Bytes), v48]) hM rfl ti_36 (hS.ev_ rfl) (hS.ev_ rfl) (ones_cons rfl (ones_cons rfl (ones_cons rfl (ones_cons (sl_one f49) ones_nil)))) (Nat.le_of_ble_eq_true rfl) fun w hM => ?_)
                have hM : Sat w0 w K52 (SP.blk g56 36 [Value.int .i64 (y44.f_Kind), Value.int .i64 (y44.f_N), strV (y44.f_Bytes), v48] :: SP.blk g58 36 [Value.int .i64 (0), Value.int .i64 (0), strV (([] : List UInt8)), Value.slice none 0 0] :: SP.blk g13 25 [Value.int .i64 (p6.f_Kind), Value.int .i64 (p6.f_N), v7, v9] :: SP.blk g11 25 [Value.int .i64 (p1.f_Kind), Value.int .i64 (p1.f_N), v2, v4] :: L) := hM
                refine pT0 hS rfl (Dem.wait (by kernel_rfl) (Dem.wait (by kernel_rfl) Dem.nil)) fun a hS => ?_
                replace hM := hM.pull 1 rfl rfl
                refine dk_one (i := 7) #[true, true, true, true, true, true, true, true] rfl (by kernel_rfl) rfl (e_storeN (vs := [Value.int .i64 (y50.f_Kind), Value.int .i64 (y50.f_N), strV (y50.f_Bytes), v54]) hM rfl ti_36 (hS.ev_ rfl) (hS.ev_ rfl) (ones_cons rfl (ones_cons rfl (ones_cons rfl (ones_cons (sl_one f55) ones_nil)))) (Nat.le_of_ble_eq_true rfl) fun w hM => ?_)
                have hM : Sat w0 w K52 (SP.blk g58 36 [Value.int .i64 (y50.f_Kind), Value.int .i64 (y50.f_N), strV (y50.f_Bytes), v54] :: SP.blk g56 36 [Value.int .i64 (y44.f_Kind), Value.int .i64 (y44.f_N), strV (y44.f_Bytes), v48] :: SP.blk g13 25 [Value.int .i64 (p6.f_Kind), Value.int .i64 (p6.f_N), v7, v9] :: SP.blk g11 25 [Value.int .i64 (p1.f_Kind), Value.int .i64 (p1.f_N), v2, v4] :: L) := hM
                refine pT0 hS rfl (Dem.wait (by kernel_rfl) (Dem.wait (by kernel_rfl) Dem.nil)) fun a hS => ?_
                refine tk_done (by kernel_rfl) ?_
                replace hS : Slots 103 [] a [(6, Value.pointer (some ⟨g58, 0, none⟩)), (5, Value.pointer (some ⟨g56, 0, none⟩)), (2, Value.pointer (some ⟨g11, 0, none⟩)), (3, Value.pointer (some ⟨g13, 0, none⟩)), (4, Value.bool (false))] := (hS.part (.cons rfl (.cons rfl (.cons rfl (.cons rfl (.cons rfl (.nil _)))))))
                refine x_then ?_
                obtain rfl := Option.some.inj h35
                exact ⟨K52, g56, g58, (v48), (v54), (hlK46.trans hlK52), (hS.part (.cons rfl (.cons rfl (.cons rfl (.cons rfl (.cons rfl (.nil _))))))), ((((hM.pull 2 rfl rfl).pull 3 rfl rfl).pull 2 rfl rfl).pull 3 rfl rfl), (Kd.sl_mono hlK52 f49), f55⟩
              ·
                skip
                refine e_alloc (cs := [Value.int .i64 (0), Value.int .i64 (0), strV (([] : List UInt8)), Value.slice none 0 0]) hM rfl ti_36 rfl fun g60 w hM => ?_
                refine pT hS rfl (by decide) (Dem.keep (fun _ => Rd.up (hlK46.trans hlK52) (hM.pull 1 rfl rfl).only) (Dem.keep (fun _ => Rd.up (hlK46.trans hlK52) (hM.pull 2 rfl rfl).only) Dem.nil)) fun a hS => ?_
                refine dk_one (i := 4) #[true, true, true, true, true, true, false, false] rfl (by kernel_rfl) rfl (e_alloc (cs := [Value.int .i64 (0), Value.int .i64 (0), strV (([] : List UInt8)), Value.slice none 0 0]) hM rfl ti_36 rfl fun g62 w hM => ?_)
                refine pT hS rfl (by decide) (Dem.keep (fun _ => Rd.up (hlK46.trans hlK52) (hM.pull 2 rfl rfl).only) (Dem.keep (fun _ => Rd.up (hlK46.trans hlK52) (hM.pull 3 rfl rfl).only) Dem.nil)) fun a hS => ?_
                refine dk_one (i := 6) #[true, true, true, true, true, true, true, false] rfl (by kernel_rfl) rfl (e_storeN (vs := [Value.int .i64 (y44.f_Kind), Value.int .i64 (y44.f_N), strV (y44.f_Bytes), v48]) hM rfl ti_36 (hS.ev_ rfl) (hS.ev_ rfl) (ones_cons rfl (ones_cons rfl (ones_cons rfl (ones_cons (sl_one f49) ones_nil)))) (Nat.le_of_ble_eq_true rfl) fun w hM => ?_)
                have hM : Sat w0 w K52 (SP.blk g62 36 [Value.int .i64 (y44.f_Kind), Value.int .i64 (y44.f_N), strV (y44.f_Bytes), v48] :: SP.blk g60 36 [Value.int .i64 (0), Value.int .i64 (0), strV (([] : List UInt8)), Value.slice none 0 0] :: SP.blk g13 25 [Value.int .i64 (p6.f_Kind), Value.int .i64 (p6.f_N), v7, v9] :: SP.blk g11 25 [Value.int .i64 (p1.f_Kind), Value.int .i64 (p1.f_N), v2, v4] :: L) := hM
                refine pT0 hS rfl (Dem.wait (by kernel_rfl) (Dem.wait (by kernel_rfl) Dem.nil)) fun a hS => ?_
                replace hM := hM.pull 1 rfl rfl
                refine dk_one (i := 7) #[true, true, true, true, true, true, true, true] rfl (by kernel_rfl) rfl (e_storeN (vs := [Value.int .i64 (y50.f_Kind), Value.int .i64 (y50.f_N), strV (y50.f_Bytes), v54]) hM rfl ti_36 (hS.ev_ rfl) (hS.ev_ rfl) (ones_cons rfl (ones_cons rfl (ones_cons rfl (ones_cons (sl_one f55) ones_nil)))) (Nat.le_of_ble_eq_true rfl) fun w hM => ?_)
                have hM : Sat w0 w K52 (SP.blk g60 36 [Value.int .i64 (y50.f_Kind), Value.int .i64 (y50.f_N), strV (y50.f_Bytes), v54] :: SP.blk g62 36 [Value.int .i64 (y44.f_Kind), Value.int .i64 (y44.f_N), strV (y44.f_Bytes), v48] :: SP.blk g13 25 [Value.int .i64 (p6.f_Kind), Value.int .i64 (p6.f_N), v7, v9] :: SP.blk g11 25 [Value.int .i64 (p1.f_Kind), Value.int .i64 (p1.f_N), v2, v4] :: L) := hM
                refine pT0 hS rfl (Dem.wait (by kernel_rfl) (Dem.wait (by kernel_rfl) Dem.nil)) fun a hS => ?_
                refine tk_done (by kernel_rfl) ?_
                replace hS : Slots 103 [] a [(5, Value.pointer (some ⟨g62, 0, none⟩)), (6, Value.pointer (some ⟨g60, 0, none⟩)), (2, Value.pointer (some ⟨g11, 0, none⟩)), (3, Value.pointer (some ⟨g13, 0, none⟩)), (4, Value.bool (false))] := (hS.part (.cons rfl (.cons rfl (.cons rfl (.cons rfl (.cons rfl (.nil _)))))))
                refine x_then ?_
                obtain rfl := Option.some.inj h35
                exact ⟨K52, g62, g60, (v48), (v54), (hlK46.trans hlK52), (hS.part (.cons rfl (.cons rfl (.cons rfl (.cons rfl (.cons rfl (.nil _))))))), ((((hM.pull 2 rfl rfl).pull 3 rfl rfl).pull 2 rfl rfl).pull 3 rfl rfl), (Kd.sl_mono hlK52 f49), f55⟩
            ·
              skip
              refine e_alloc (cs := [Value.int .i64 (0), Value.int .i64 (0), strV (([] : List UInt8)), Value.slice none 0 0]) hM rfl ti_36 rfl fun g64 w hM => ?_
              refine pT hS rfl (by decide) (Dem.keep (fun _ => Rd.up hlK46 (hM.pull 1 rfl rfl).only) (Dem.keep (fun _ => Rd.up hlK46 (hM.pull 2 rfl rfl).only) Dem.nil)) fun a hS => ?_
              refine dk_two (i := 3) (j := 5) #[true, true, true, true, true, false, false, false] #[true, true, true, false, true, true, false, false] rfl rfl (by kernel_rfl) rfl rfl ?_ ?_
              ·
                skip
                obtain ⟨y66, h67, h35⟩ := bindO h35
                have hc69 := Law_Of_c hG h67 (Kd.sl_mono (((hlK17.trans hlK22).trans hlK24).trans hlK46) f8) (Kd.sl_mono (((hlK17.trans hlK22).trans hlK24).trans hlK46) f10) hM
                refine e_call rfl Tryd.func13 rfl rfl (args1 (hS.ev_ rfl)) hc69 ?_
                rintro _ w ⟨K68, v70, hlK68, hM, rfl, f71⟩
                refine ⟨_, rfl, ?_⟩
                refine pT hS rfl (by decide) (Dem.wait (by kernel_rfl) (Dem.wait (by kernel_rfl) Dem.nil)) fun a hS => ?_
                refine dk_one (i := 5) #[true, true, true, true, true, true, false, false] rfl (by kernel_rfl) rfl (e_alloc (cs := [Value.int .i64 (0), Value.int .i64 (0), strV (([] : List UInt8)), Value.slice none 0 0]) hM rfl ti_36 rfl fun g72 w hM => ?_)
                refine pT hS rfl (by decide) (Dem.keep (fun _ => Rd.up (hlK46.trans hlK68) (hM.pull 2 rfl rfl).only) (Dem.keep (fun _ => Rd.up (hlK46.trans hlK68) (hM.pull 3 rfl rfl).only) Dem.nil)) fun a hS => ?_
                replace hM := hM.pull 1 rfl rfl
                refine dk_one (i := 6) #[true, true, true, true, true, true, true, false] rfl (by kernel_rfl) rfl (e_storeN (vs := [Value.int .i64 (y44.f_Kind), Value.int .i64 (y44.f_N), strV (y44.f_Bytes), v48]) hM rfl ti_36 (hS.ev_ rfl) (hS.ev_ rfl) (ones_cons rfl (ones_cons rfl (ones_cons rfl (ones_cons (sl_one f49) ones_nil)))) (Nat.le_of_ble_eq_true rfl) fun w hM => ?_)
                have hM : Sat w0 w K68 (SP.blk g64 36 [Value.int .i64 (y44.f_Kind), Value.int .i64 (y44.f_N), strV (y44.f_Bytes), v48] :: SP.blk g72 36 [Value.int .i64 (0), Value.int .i64 (0), strV (([] : List UInt8)), Value.slice none 0 0] :: SP.blk g13 25 [Value.int .i64 (p6.f_Kind), Value.int .i64 (p6.f_N), v7, v9] :: SP.blk g11 25 [Value.int .i64 (p1.f_Kind), Value.int .i64 (p1.f_N), v2, v4] :: L) := hM
                refine pT0 hS rfl (Dem.wait (by kernel_rfl) (Dem.wait (by kernel_rfl) Dem.nil)) fun a hS => ?_
                replace hM := hM.pull 1 rfl rfl
                refine dk_one (i := 7) #[true, true, true, true, true, true, true, true] rfl (by kernel_rfl) rfl (e_storeN (vs := [Value.int .i64 (y66.f_Kind), Value.int .i64 (y66.f_N), strV (y66.f_Bytes), v70]) hM rfl ti_36 (hS.ev_ rfl) (hS.ev_ rfl) (ones_cons rfl (ones_cons rfl (ones_cons rfl (ones_cons (sl_one f71) ones_nil)))) (Nat.le_of_ble_eq_true rfl) fun w hM => ?_)
                have hM : Sat w0 w K68 (SP.blk g72 36 [Value.int .i64 (y66.f_Kind), Value.int .i64 (y66.f_N), strV (y66.f_Bytes), v70] :: SP.blk g64 36 [Value.int .i64 (y44.f_Kind), Value.int .i64 (y44.f_N), strV (y44.f_Bytes), v48] :: SP.blk g13 25 [Value.int .i64 (p6.f_Kind), Value.int .i64 (p6.f_N), v7, v9] :: SP.blk g11 25 [Value.int .i64 (p1.f_Kind), Value.int .i64 (p1.f_N), v2, v4] :: L) := hM
                refine pT0 hS rfl (Dem.wait (by kernel_rfl) (Dem.wait (by kernel_rfl) Dem.nil)) fun a hS => ?_
                refine tk_done (by kernel_rfl) ?_
                replace hS : Slots 103 [] a [(6, Value.pointer (some ⟨g72, 0, none⟩)), (5, Value.pointer (some ⟨g64, 0, none⟩)), (2, Value.pointer (some ⟨g11, 0, none⟩)), (3, Value.pointer (some ⟨g13, 0, none⟩)), (4, Value.bool (false))] := (hS.part (.cons rfl (.cons rfl (.cons rfl (.cons rfl (.cons rfl (.nil _)))))))
                refine x_then ?_
                obtain rfl := Option.some.inj h35
                exact ⟨K68, g64, g72, (v48), (v70), (hlK46.trans hlK68), (hS.part (.cons rfl (.cons rfl (.cons rfl (.cons rfl (.cons rfl (.nil _))))))), ((((hM.pull 2 rfl rfl).pull 3 rfl rfl).pull 2 rfl rfl).pull 3 rfl rfl), (Kd.sl_mono hlK68 f49), f71⟩
              ·
                skip
                refine e_alloc (cs := [Value.int .i64 (0), Value.int .i64 (0), strV (([] : List UInt8)), Value.slice none 0 0]) hM rfl ti_36 rfl fun g74 w hM => ?_
                refine pT hS rfl (by decide) (Dem.keep (fun _ => Rd.up hlK46 (hM.pull 2 rfl rfl).only) (Dem.keep (fun _ => Rd.up hlK46 (hM.pull 3 rfl rfl).only) Dem.nil)) fun a hS => ?_
                obtain ⟨y76, h77, h35⟩ := bindO h35
                have hc79 := Law_Of_c hG h77 (Kd.sl_mono (((hlK17.trans hlK22).trans hlK24).trans hlK46) f8) (Kd.sl_mono (((hlK17.trans hlK22).trans hlK24).trans hlK46) f10) hM
                refine dk_one (i := 3) #[true, true, true, true, true, true, false, false] rfl (by kernel_rfl) rfl (e_call rfl Tryd.func13 rfl rfl (args1 (hS.ev_ rfl)) hc79 ?_)
                rintro _ w ⟨K78, v80, hlK78, hM, rfl, f81⟩
                refine ⟨_, rfl, ?_⟩
                refine pT hS rfl (by decide) (Dem.wait (by kernel_rfl) (Dem.wait (by kernel_rfl) Dem.nil)) fun a hS => ?_
                replace hM := hM.pull 1 rfl rfl
                refine dk_one (i := 6) #[true, true, true, true, true, true, true, false] rfl (by kernel_rfl) rfl (e_storeN (vs := [Value.int .i64 (y44.f_Kind), Value.int .i64 (y44.f_N), strV (y44.f_Bytes), v48]) hM rfl ti_36 (hS.ev_ rfl) (hS.ev_ rfl) (ones_cons rfl (ones_cons rfl (ones_cons rfl (ones_cons (sl_one f49) ones_nil)))) (Nat.le_of_ble_eq_true rfl) fun w hM => ?_)
                have hM : Sat w0 w K78 (SP.blk g64 36 [Value.int .i64 (y44.f_Kind), Value.int .i64 (y44.f_N), strV (y44.f_Bytes), v48] :: SP.blk g74 36 [Value.int .i64 (0), Value.int .i64 (0), strV (([] : List UInt8)), Value.slice none 0 0] :: SP.blk g13 25 [Value.int .i64 (p6.f_Kind), Value.int .i64 (p6.f_N), v7, v9] :: SP.blk g11 25 [Value.int .i64 (p1.f_Kind), Value.int .i64 (p1.f_N), v2, v4] :: L) := hM
                refine pT0 hS rfl (Dem.wait (by kernel_rfl) (Dem.wait (by kernel_rfl) Dem.nil)) fun a hS => ?_
                replace hM := hM.pull 1 rfl rfl
                refine dk_one (i := 7) #[true, true, true, true, true, true, true, true] rfl (by kernel_rfl) rfl (e_storeN (vs := [Value.int .i64 (y76.f_Kind), Value.int .i64 (y76.f_N), strV (y76.f_Bytes), v80]) hM rfl ti_36 (hS.ev_ rfl) (hS.ev_ rfl) (ones_cons rfl (ones_cons rfl (ones_cons rfl (ones_cons (sl_one f81) ones_nil)))) (Nat.le_of_ble_eq_true rfl) fun w hM => ?_)
                have hM : Sat w0 w K78 (SP.blk g74 36 [Value.int .i64 (y76.f_Kind), Value.int .i64 (y76.f_N), strV (y76.f_Bytes), v80] :: SP.blk g64 36 [Value.int .i64 (y44.f_Kind), Value.int .i64 (y44.f_N), strV (y44.f_Bytes), v48] :: SP.blk g13 25 [Value.int .i64 (p6.f_Kind), Value.int .i64 (p6.f_N), v7, v9] :: SP.blk g11 25 [Value.int .i64 (p1.f_Kind), Value.int .i64 (p1.f_N), v2, v4] :: L) := hM
                refine pT0 hS rfl (Dem.wait (by kernel_rfl) (Dem.wait (by kernel_rfl) Dem.nil)) fun a hS => ?_
                refine tk_done (by kernel_rfl) ?_
                replace hS : Slots 103 [] a [(6, Value.pointer (some ⟨g74, 0, none⟩)), (5, Value.pointer (some ⟨g64, 0, none⟩)), (2, Value.pointer (some ⟨g11, 0, none⟩)), (3, Value.pointer (some ⟨g13, 0, none⟩)), (4, Value.bool (false))] := (hS.part (.cons rfl (.cons rfl (.cons rfl (.cons rfl (.cons rfl (.nil _)))))))
                refine x_then ?_
                obtain rfl := Option.some.inj h35
                exact ⟨K78, g64, g74, (v48), (v80), (hlK46.trans hlK78), (hS.part (.cons rfl (.cons rfl (.cons rfl (.cons rfl (.cons rfl (.nil _))))))), ((((hM.pull 2 rfl rfl).pull 3 rfl rfl).pull 2 rfl rfl).pull 3 rfl rfl), (Kd.sl_mono hlK78 f49), f81⟩
            ·
              skip
              refine e_alloc (cs := [Value.int .i64 (0), Value.int .i64 (0), strV (([] : List UInt8)), Value.slice none 0 0]) hM rfl ti_36 rfl fun g82 w hM => ?_
              refine pT hS rfl (by decide) (Dem.keep (fun _ => Rd.up hlK46 (hM.pull 1 rfl rfl).only) (Dem.keep (fun _ => Rd.up hlK46 (hM.pull 2 rfl rfl).only) Dem.nil)) fun a hS => ?_
              refine dk_two (i := 3) (j := 4) #[true, true, true, true, false, true, false, false] #[true, true, true, false, true, true, false, false] rfl rfl (by kernel_rfl) rfl rfl ?_ ?_
              ·
                skip
                obtain ⟨y84, h85, h35⟩ := bindO h35
                have hc87 := Law_Of_c hG h85 (Kd.sl_mono (((hlK17.trans hlK22).trans hlK24).trans hlK46) f8) (Kd.sl_mono (((hlK17.trans hlK22).trans hlK24).trans hlK46) f10) hM
                refine e_call rfl Tryd.func13 rfl rfl (args1 (hS.ev_ rfl)) hc87 ?_
                rintro _ w ⟨K86, v88, hlK86, hM, rfl, f89⟩
                refine ⟨_, rfl, ?_⟩
                refine pT hS rfl (by decide) (Dem.wait (by kernel_rfl) (Dem.wait (by kernel_rfl) Dem.nil)) fun a hS => ?_
                refine dk_one (i := 4) #[true, true, true, true, true, true, false, false] rfl (by kernel_rfl) rfl (e_alloc (cs := [Value.int .i64 (0), Value.int .i64 (0), strV (([] : List UInt8)), Value.slice none 0 0]) hM rfl ti_36 rfl fun g90 w hM => ?_)
                refine pT hS rfl (by decide) (Dem.keep (fun _ => Rd.up (hlK46.trans hlK86) (hM.pull 2 rfl rfl).only) (Dem.keep (fun _ => Rd.up (hlK46.trans hlK86) (hM.pull 3 rfl rfl).only) Dem.nil)) fun a hS => ?_
                refine dk_one (i := 6) #[true, true, true, true, true, true, true, false] rfl (by kernel_rfl) rfl (e_storeN (vs := [Value.int .i64 (y44.f_Kind), Value.int .i64 (y44.f_N), strV (y44.f_Bytes), v48]) hM rfl ti_36 (hS.ev_ rfl) (hS.ev_ rfl) (ones_cons rfl (ones_cons rfl (ones_cons rfl (ones_cons (sl_one f49) ones_nil)))) (Nat.le_of_ble_eq_true rfl) fun w hM => ?_)
                have hM : Sat w0 w K86 (SP.blk g90 36 [Value.int .i64 (y44.f_Kind), Value.int .i64 (y44.f_N), strV (y44.f_Bytes), v48] :: SP.blk g82 36 [Value.int .i64 (0), Value.int .i64 (0), strV (([] : List UInt8)), Value.slice none 0 0] :: SP.blk g13 25 [Value.int .i64 (p6.f_Kind), Value.int .i64 (p6.f_N), v7, v9] :: SP.blk g11 25 [Value.int .i64 (p1.f_Kind), Value.int .i64 (p1.f_N), v2, v4] :: L) := hM
                refine pT0 hS rfl (Dem.wait (by kernel_rfl) (Dem.wait (by kernel_rfl) Dem.nil)) fun a hS => ?_
                replace hM := hM.pull 1 rfl rfl
                refine dk_one (i := 7) #[true, true, true, true, true, true, true, true] rfl (by kernel_rfl) rfl (e_storeN (vs := [Value.int .i64 (y84.f_Kind), Value.int .i64 (y84.f_N), strV (y84.f_Bytes), v88]) hM rfl ti_36 (hS.ev_ rfl) (hS.ev_ rfl) (ones_cons rfl (ones_cons rfl (ones_cons rfl (ones_cons (sl_one f89) ones_nil)))) (Nat.le_of_ble_eq_true rfl) fun w hM => ?_)
                have hM : Sat w0 w K86 (SP.blk g82 36 [Value.int .i64 (y84.f_Kind), Value.int .i64 (y84.f_N), strV (y84.f_Bytes), v88] :: SP.blk g90 36 [Value.int .i64 (y44.f_Kind), Value.int .i64 (y44.f_N), strV (y44.f_Bytes), v48] :: SP.blk g13 25 [Value.int .i64 (p6.f_Kind), Value.int .i64 (p6.f_N), v7, v9] :: SP.blk g11 25 [Value.int .i64 (p1.f_Kind), Value.int .i64 (p1.f_N), v2, v4] :: L) := hM
                refine pT0 hS rfl (Dem.wait (by kernel_rfl) (Dem.wait (by kernel_rfl) Dem.nil)) fun a hS => ?_
                refine tk_done (by kernel_rfl) ?_
                replace hS : Slots 103 [] a [(5, Value.pointer (some ⟨g90, 0, none⟩)), (6, Value.pointer (some ⟨g82, 0, none⟩)), (2, Value.pointer (some ⟨g11, 0, none⟩)), (3, Value.pointer (some ⟨g13, 0, none⟩)), (4, Value.bool (false))] := (hS.part (.cons rfl (.cons rfl (.cons rfl (.cons rfl (.cons rfl (.nil _)))))))
                refine x_then ?_
                obtain rfl := Option.some.inj h35
                exact ⟨K86, g90, g82, (v48), (v88), (hlK46.trans hlK86), (hS.part (.cons rfl (.cons rfl (.cons rfl (.cons rfl (.cons rfl (.nil _))))))), ((((hM.pull 2 rfl rfl).pull 3 rfl rfl).pull 2 rfl rfl).pull 3 rfl rfl), (Kd.sl_mono hlK86 f49), f89⟩
              ·
                skip
                refine e_alloc (cs := [Value.int .i64 (0), Value.int .i64 (0), strV (([] : List UInt8)), Value.slice none 0 0]) hM rfl ti_36 rfl fun g92 w hM => ?_
                refine pT hS rfl (by decide) (Dem.keep (fun _ => Rd.up hlK46 (hM.pull 2 rfl rfl).only) (Dem.keep (fun _ => Rd.up hlK46 (hM.pull 3 rfl rfl).only) Dem.nil)) fun a hS => ?_
                obtain ⟨y94, h95, h35⟩ := bindO h35
                have hc97 := Law_Of_c hG h95 (Kd.sl_mono (((hlK17.trans hlK22).trans hlK24).trans hlK46) f8) (Kd.sl_mono (((hlK17.trans hlK22).trans hlK24).trans hlK46) f10) hM
                refine dk_one (i := 3) #[true, true, true, true, true, true, false, false] rfl (by kernel_rfl) rfl (e_call rfl Tryd.func13 rfl rfl (args1 (hS.ev_ rfl)) hc97 ?_)
                rintro _ w ⟨K96, v98, hlK96, hM, rfl, f99⟩
                refine ⟨_, rfl, ?_⟩
                refine pT hS rfl (by decide) (Dem.wait (by kernel_rfl) (Dem.wait (by kernel_rfl) Dem.nil)) fun a hS => ?_
                refine dk_one (i := 6) #[true, true, true, true, true, true, true, false] rfl (by kernel_rfl) rfl (e_storeN (vs := [Value.int .i64 (y44.f_Kind), Value.int .i64 (y44.f_N), strV (y44.f_Bytes), v48]) hM rfl ti_36 (hS.ev_ rfl) (hS.ev_ rfl) (ones_cons rfl (ones_cons rfl (ones_cons rfl (ones_cons (sl_one f49) ones_nil)))) (Nat.le_of_ble_eq_true rfl) fun w hM => ?_)
                have hM : Sat w0 w K96 (SP.blk g92 36 [Value.int .i64 (y44.f_Kind), Value.int .i64 (y44.f_N), strV (y44.f_Bytes), v48] :: SP.blk g82 36 [Value.int .i64 (0), Value.int .i64 (0), strV (([] : List UInt8)), Value.slice none 0 0] :: SP.blk g13 25 [Value.int .i64 (p6.f_Kind), Value.int .i64 (p6.f_N), v7, v9] :: SP.blk g11 25 [Value.int .i64 (p1.f_Kind), Value.int .i64 (p1.f_N), v2, v4] :: L) := hM
                refine pT0 hS rfl (Dem.wait (by kernel_rfl) (Dem.wait (by kernel_rfl) Dem.nil)) fun a hS => ?_
                replace hM := hM.pull 1 rfl rfl
                refine dk_one (i := 7) #[true, true, true, true, true, true, true, true] rfl (by kernel_rfl) rfl (e_storeN (vs := [Value.int .i64 (y94.f_Kind), Value.int .i64 (y94.f_N), strV (y94.f_Bytes), v98]) hM rfl ti_36 (hS.ev_ rfl) (hS.ev_ rfl) (ones_cons rfl (ones_cons rfl (ones_cons rfl (ones_cons (sl_one f99) ones_nil)))) (Nat.le_of_ble_eq_true rfl) fun w hM => ?_)
                have hM : Sat w0 w K96 (SP.blk g82 36 [Value.int .i64 (y94.f_Kind), Value.int .i64 (y94.f_N), strV (y94.f_Bytes), v98] :: SP.blk g92 36 [Value.int .i64 (y44.f_Kind), Value.int .i64 (y44.f_N), strV (y44.f_Bytes), v48] :: SP.blk g13 25 [Value.int .i64 (p6.f_Kind), Value.int .i64 (p6.f_N), v7, v9] :: SP.blk g11 25 [Value.int .i64 (p1.f_Kind), Value.int .i64 (p1.f_N), v2, v4] :: L) := hM
                refine pT0 hS rfl (Dem.wait (by kernel_rfl) (Dem.wait (by kernel_rfl) Dem.nil)) fun a hS => ?_
                refine tk_done (by kernel_rfl) ?_
                replace hS : Slots 103 [] a [(5, Value.pointer (some ⟨g92, 0, none⟩)), (6, Value.pointer (some ⟨g82, 0, none⟩)), (2, Value.pointer (some ⟨g11, 0, none⟩)), (3, Value.pointer (some ⟨g13, 0, none⟩)), (4, Value.bool (false))] := (hS.part (.cons rfl (.cons rfl (.cons rfl (.cons rfl (.cons rfl (.nil _)))))))
                refine x_then ?_
                obtain rfl := Option.some.inj h35
                exact ⟨K96, g92, g82, (v48), (v98), (hlK46.trans hlK96), (hS.part (.cons rfl (.cons rfl (.cons rfl (.cons rfl (.cons rfl (.nil _))))))), ((((hM.pull 2 rfl rfl).pull 3 rfl rfl).pull 2 rfl rfl).pull 3 rfl rfl), (Kd.sl_mono hlK96 f49), f99⟩
          ·
            skip
            refine e_alloc (cs := [Value.int .i64 (0), Value.int .i64 (0), strV (([] : List UInt8)), Value.slice none 0 0]) hM rfl ti_36 rfl fun g100 w hM => ?_
            refine pT hS rfl (by decide) (Dem.keep (fun _ => Rd.up (Hp.le.refl _) (hM.pull 1 rfl rfl).only) (Dem.keep (fun _ => Rd.up (Hp.le.refl _) (hM.pull 2 rfl rfl).only) Dem.nil)) fun a hS => ?_
            refine dk_two (i := 1) (j := 5) #[true, true, true, false, true, false, false, false] #[true, false, true, false, true, true, false, false] rfl rfl (by kernel_rfl) rfl rfl ?_ ?_
            ·
              skip
              obtain ⟨y102, h103, h35⟩ := bindO h35
              have hc105 := Law_Of_c hG h103 (Kd.sl_mono ((hlK17.trans hlK22).trans hlK24) f3) (Kd.sl_mono ((hlK17.trans hlK22).trans hlK24) f5) hM
              refine e_call rfl Tryd.func13 rfl rfl (args1 (hS.ev_ rfl)) hc105 ?_
              rintro _ w ⟨K104, v106, hlK104, hM, rfl, f107⟩
              refine ⟨_, rfl, ?_⟩
              refine pT hS rfl (by decide) (Dem.keep (fun _ => Rd.up hlK104 (hM.pull 1 rfl rfl).only) (Dem.wait (by kernel_rfl) Dem.nil)) fun a hS => ?_
              refine dk_two (i := 3) (j := 5) #[true, true, true, true, true, false, false, false] #[true, true, true, false, true, true, false, false] rfl rfl (by kernel_rfl) rfl rfl ?_ ?_
              ·
                skip
                obtain ⟨y108, h109, h35⟩ := bindO h35
                have hc111 := Law_Of_c hG h109 (Kd.sl_mono (((hlK17.trans hlK22).trans hlK24).trans hlK104) f8) (Kd.sl_mono (((hlK17.trans hlK22).trans hlK24).trans hlK104) f10) hM
                refine e_call rfl Tryd.func13 rfl rfl (args1 (hS.ev_ rfl)) hc111 ?_
                rintro _ w ⟨K110, v112, hlK110, hM, rfl, f113⟩
                refine ⟨_, rfl, ?_⟩
                refine pT hS rfl (by decide) (Dem.wait (by kernel_rfl) (Dem.wait (by kernel_rfl) Dem.nil)) fun a hS => ?_
                refine dk_one (i := 5) #[true, true, true, true, true, true, false, false] rfl (by kernel_rfl) rfl (e_alloc (cs := [Value.int .i64 (0), Value.int .i64 (0), strV (([] : List UInt8)), Value.slice none 0 0]) hM rfl ti_36 rfl fun g114 w hM => ?_)
                refine pT hS rfl (by decide) (Dem.keep (fun _ => Rd.up (hlK104.trans hlK110) (hM.pull 2 rfl rfl).only) (Dem.keep (fun _ => Rd.up (hlK104.trans hlK110) (hM.pull 3 rfl rfl).only) Dem.nil)) fun a hS => ?_
                replace hM := hM.pull 1 rfl rfl
                refine dk_one (i := 6) #[true, true, true, true, true, true, true, false] rfl (by kernel_rfl) rfl (e_storeN (vs := [Value.int .i64 (y102.f_Kind), Value.int .i64 (y102.f_N), strV (y102.f_Bytes), v106]) hM rfl ti_36 (hS.ev_ rfl) (hS.ev_ rfl) (ones_cons rfl (ones_cons rfl (ones_cons rfl (ones_cons (sl_one f107) ones_nil)))) (Nat.le_of_ble_eq_true rfl) fun w hM => ?_)
                have hM : Sat w0 w K110 (SP.blk g100 36 [Value.int .i64 (y102.f_Kind), Value.int .i64 (y102.f_N), strV (y102.f_Bytes), v106] :: SP.blk g114 36 [Value.int .i64 (0), Value.int .i64 (0), strV (([] : List UInt8)), Value.slice none 0 0] :: SP.blk g13 25 [Value.int .i64 (p6.f_Kind), Value.int .i64 (p6.f_N), v7, v9] :: SP.blk g11 25 [Value.int .i64 (p1.f_Kind), Value.int .i64 (p1.f_N), v2, v4] :: L) := hM
                refine pT0 hS rfl (Dem.wait (by kernel_rfl) (Dem.wait (by kernel_rfl) Dem.nil)) fun a hS => ?_
                replace hM := hM.pull 1 rfl rfl
                refine dk_one (i := 7) #[true, true, true, true, true, true, true, true] rfl (by kernel_rfl) rfl (e_storeN (vs := [Value.int .i64 (y108.f_Kind), Value.int .i64 (y108.f_N), strV (y108.f_Bytes), v112]) hM rfl ti_36 (hS.ev_ rfl) (hS.ev_ rfl) (ones_cons rfl (ones_cons rfl (ones_cons rfl (ones_cons (sl_one f113) ones_nil)))) (Nat.le_of_ble_eq_true rfl) fun w hM => ?_)
                have hM : Sat w0 w K110 (SP.blk g114 36 [Value.int .i64 (y108.f_Kind), Value.int .i64 (y108.f_N), strV (y108.f_Bytes), v112] :: SP.blk g100 36 [Value.int .i64 (y102.f_Kind), Value.int .i64 (y102.f_N), strV (y102.f_Bytes), v106] :: SP.blk g13 25 [Value.int .i64 (p6.f_Kind), Value.int .i64 (p6.f_N), v7, v9] :: SP.blk g11 25 [Value.int .i64 (p1.f_Kind), Value.int .i64 (p1.f_N), v2, v4] :: L) := hM
                refine pT0 hS rfl (Dem.wait (by kernel_rfl) (Dem.wait (by kernel_rfl) Dem.nil)) fun a hS => ?_
                refine tk_done (by kernel_rfl) ?_
                replace hS : Slots 103 [] a [(6, Value.pointer (some ⟨g114, 0, none⟩)), (5, Value.pointer (some ⟨g100, 0, none⟩)), (2, Value.pointer (some ⟨g11, 0, none⟩)), (3, Value.pointer (some ⟨g13, 0, none⟩)), (4, Value.bool (false))] := (hS.part (.cons rfl (.cons rfl (.cons rfl (.cons rfl (.cons rfl (.nil _)))))))
                refine x_then ?_
                obtain rfl := Option.some.inj h35
                exact ⟨K110, g100, g114, (v106), (v112), (hlK104.trans hlK110), (hS.part (.cons rfl (.cons rfl (.cons rfl (.cons rfl (.cons rfl (.nil _))))))), ((((hM.pull 2 rfl rfl).pull 3 rfl rfl).pull 2 rfl rfl).pull 3 rfl rfl), (Kd.sl_mono hlK110 f107), f113⟩
              ·
                skip
                refine e_alloc (cs := [Value.int .i64 (0), Value.int .i64 (0), strV (([] : List UInt8)), Value.slice none 0 0]) hM rfl ti_36 rfl fun g116 w hM => ?_
                refine pT hS rfl (by decide) (Dem.keep (fun _ => Rd.up hlK104 (hM.pull 2 rfl rfl).only) (Dem.keep (fun _ => Rd.up hlK104 (hM.pull 3 rfl rfl).only) Dem.nil)) fun a hS => ?_
                obtain ⟨y118, h119, h35⟩ := bindO h35
                have hc121 := Law_Of_c hG h119 (Kd.sl_mono (((hlK17.trans hlK22).trans hlK24).trans hlK104) f8) (Kd.sl_mono (((hlK17.trans hlK22).trans hlK24).trans hlK104) f10) hM
                refine dk_one (i := 3) #[true, true, true, true, true, true, false, false] rfl (by kernel_rfl) rfl (e_call rfl Tryd.func13 rfl rfl (args1 (hS.ev_ rfl)) hc121 ?_)
                rintro _ w ⟨K120, v122, hlK120, hM, rfl, f123⟩
                refine ⟨_, rfl, ?_⟩
                refine pT hS rfl (by decide) (Dem.wait (by kernel_rfl) (Dem.wait (by kernel_rfl) Dem.nil)) fun a hS => ?_
                replace hM := hM.pull 1 rfl rfl
                refine dk_one (i := 6) #[true, true, true, true, true, true, true, false] rfl (by kernel_rfl) rfl (e_storeN (vs := [Value.int .i64 (y102.f_Kind), Value.int .i64 (y102.f_N), strV (y102.f_Bytes), v106]) hM rfl ti_36 (hS.ev_ rfl) (hS.ev_ rfl) (ones_cons rfl (ones_cons rfl (ones_cons rfl (ones_cons (sl_one f107) ones_nil)))) (Nat.le_of_ble_eq_true rfl) fun w hM => ?_)
                have hM : Sat w0 w K120 (SP.blk g100 36 [Value.int .i64 (y102.f_Kind), Value.int .i64 (y102.f_N), strV (y102.f_Bytes), v106] :: SP.blk g116 36 [Value.int .i64 (0), Value.int .i64 (0), strV (([] : List UInt8)), Value.slice none 0 0] :: SP.blk g13 25 [Value.int .i64 (p6.f_Kind), Value.int .i64 (p6.f_N), v7, v9] :: SP.blk g11 25 [Value.int .i64 (p1.f_Kind), Value.int .i64 (p1.f_N), v2, v4] :: L) := hM
                refine pT0 hS rfl (Dem.wait (by kernel_rfl) (Dem.wait (by kernel_rfl) Dem.nil)) fun a hS => ?_
                replace hM := hM.pull 1 rfl rfl
                refine dk_one (i := 7) #[true, true, true, true, true, true, true, true] rfl (by kernel_rfl) rfl (e_storeN (vs := [Value.int .i64 (y118.f_Kind), Value.int .i64 (y118.f_N), strV (y118.f_Bytes), v122]) hM rfl ti_36 (hS.ev_ rfl) (hS.ev_ rfl) (ones_cons rfl (ones_cons rfl (ones_cons rfl (ones_cons (sl_one f123) ones_nil)))) (Nat.le_of_ble_eq_true rfl) fun w hM => ?_)
                have hM : Sat w0 w K120 (SP.blk g116 36 [Value.int .i64 (y118.f_Kind), Value.int .i64 (y118.f_N), strV (y118.f_Bytes), v122] :: SP.blk g100 36 [Value.int .i64 (y102.f_Kind), Value.int .i64 (y102.f_N), strV (y102.f_Bytes), v106] :: SP.blk g13 25 [Value.int .i64 (p6.f_Kind), Value.int .i64 (p6.f_N), v7, v9] :: SP.blk g11 25 [Value.int .i64 (p1.f_Kind), Value.int .i64 (p1.f_N), v2, v4] :: L) := hM
                refine pT0 hS rfl (Dem.wait (by kernel_rfl) (Dem.wait (by kernel_rfl) Dem.nil)) fun a hS => ?_
                refine tk_done (by kernel_rfl) ?_
                replace hS : Slots 103 [] a [(6, Value.pointer (some ⟨g116, 0, none⟩)), (5, Value.pointer (some ⟨g100, 0, none⟩)), (2, Value.pointer (some ⟨g11, 0, none⟩)), (3, Value.pointer (some ⟨g13, 0, none⟩)), (4, Value.bool (false))] := (hS.part (.cons rfl (.cons rfl (.cons rfl (.cons rfl (.cons rfl (.nil _)))))))
                refine x_then ?_
                obtain rfl := Option.some.inj h35
                exact ⟨K120, g100, g116, (v106), (v122), (hlK104.trans hlK120), (hS.part (.cons rfl (.cons rfl (.cons rfl (.cons rfl (.cons rfl (.nil _))))))), ((((hM.pull 2 rfl rfl).pull 3 rfl rfl).pull 2 rfl rfl).pull 3 rfl rfl), (Kd.sl_mono hlK120 f107), f123⟩
            ·
              skip
              refine e_alloc (cs := [Value.int .i64 (0), Value.int .i64 (0), strV (([] : List UInt8)), Value.slice none 0 0]) hM rfl ti_36 rfl fun g124 w hM => ?_
              refine pT hS rfl (by decide) (Dem.keep (fun _ => Rd.up (Hp.le.refl _) (hM.pull 2 rfl rfl).only) (Dem.keep (fun _ => Rd.up (Hp.le.refl _) (hM.pull 3 rfl rfl).only) Dem.nil)) fun a hS => ?_
              obtain ⟨y126, h127, h35⟩ := bindO h35
              have hc129 := Law_Of_c hG h127 (Kd.sl_mono ((hlK17.trans hlK22).trans hlK24) f3) (Kd.sl_mono ((hlK17.trans hlK22).trans hlK24) f5) hM
              refine dk_one (i := 1) #[true, true, true, false, true, true, false, false] rfl (by kernel_rfl) rfl (e_call rfl Tryd.func13 rfl rfl (args1 (hS.ev_ rfl)) hc129 ?_)
              rintro _ w ⟨K128, v130, hlK128, hM, rfl, f131⟩
              refine ⟨_, rfl, ?_⟩
              refine pT hS rfl (by decide) (Dem.keep (fun _ => Rd.up hlK128 (hM.pull 2 rfl rfl).only) (Dem.wait (by kernel_rfl) Dem.nil)) fun a hS => ?_
              obtain ⟨y132, h133, h35⟩ := bindO h35
              have hc135 := Law_Of_c hG h133 (Kd.sl_mono (((hlK17.trans hlK22).trans hlK24).trans hlK128) f8) (Kd.sl_mono (((hlK17.trans hlK22).trans hlK24).trans hlK128) f10) hM
              refine dk_one (i := 3) #[true, true, true, true, true, true, false, false] rfl (by kernel_rfl) rfl (e_call rfl Tryd.func13 rfl rfl (args1 (hS.ev_ rfl)) hc135 ?_)
              rintro _ w ⟨K134, v136, hlK134, hM, rfl, f137⟩
              refine ⟨_, rfl, ?_⟩
              refine pT hS rfl (by decide) (Dem.wait (by kernel_rfl) (Dem.wait (by kernel_rfl) Dem.nil)) fun a hS => ?_
              replace hM := hM.pull 1 rfl rfl
              refine dk_one (i := 6) #[true, true, true, true, true, true, true, false] rfl (by kernel_rfl) rfl (e_storeN (vs := [Value.int .i64 (y126.f_Kind), Value.int .i64 (y126.f_N), strV (y126.f_Bytes), v130]) hM rfl ti_36 (hS.ev_ rfl) (hS.ev_ rfl) (ones_cons rfl (ones_cons rfl (ones_cons rfl (ones_cons (sl_one f131) ones_nil)))) (Nat.le_of_ble_eq_true rfl) fun w hM => ?_)
              have hM : Sat w0 w K134 (SP.blk g100 36 [Value.int .i64 (y126.f_Kind), Value.int .i64 (y126.f_N), strV (y126.f_Bytes), v130] :: SP.blk g124 36 [Value.int .i64 (0), Value.int .i64 (0), strV (([] : List UInt8)), Value.slice none 0 0] :: SP.blk g13 25 [Value.int .i64 (p6.f_Kind), Value.int .i64 (p6.f_N), v7, v9] :: SP.blk g11 25 [Value.int .i64 (p1.f_Kind), Value.int .i64 (p1.f_N), v2, v4] :: L) := hM
              refine pT0 hS rfl (Dem.wait (by kernel_rfl) (Dem.wait (by kernel_rfl) Dem.nil)) fun a hS => ?_
              replace hM := hM.pull 1 rfl rfl
              refine dk_one (i := 7) #[true, true, true, true, true, true, true, true] rfl (by kernel_rfl) rfl (e_storeN (vs := [Value.int .i64 (y132.f_Kind), Value.int .i64 (y132.f_N), strV (y132.f_Bytes), v136]) hM rfl ti_36 (hS.ev_ rfl) (hS.ev_ rfl) (ones_cons rfl (ones_cons rfl (ones_cons rfl (ones_cons (sl_one f137) ones_nil)))) (Nat.le_of_ble_eq_true rfl) fun w hM => ?_)
              have hM : Sat w0 w K134 (SP.blk g124 36 [Value.int .i64 (y132.f_Kind), Value.int .i64 (y132.f_N), strV (y132.f_Bytes), v136] :: SP.blk g100 36 [Value.int .i64 (y126.f_Kind), Value.int .i64 (y126.f_N), strV (y126.f_Bytes), v130] :: SP.blk g13 25 [Value.int .i64 (p6.f_Kind), Value.int .i64 (p6.f_N), v7, v9] :: SP.blk g11 25 [Value.int .i64 (p1.f_Kind), Value.int .i64 (p1.f_N), v2, v4] :: L) := hM
              refine pT0 hS rfl (Dem.wait (by kernel_rfl) (Dem.wait (by kernel_rfl) Dem.nil)) fun a hS => ?_
              refine tk_done (by kernel_rfl) ?_
              replace hS : Slots 103 [] a [(6, Value.pointer (some ⟨g124, 0, none⟩)), (5, Value.pointer (some ⟨g100, 0, none⟩)), (2, Value.pointer (some ⟨g11, 0, none⟩)), (3, Value.pointer (some ⟨g13, 0, none⟩)), (4, Value.bool (false))] := (hS.part (.cons rfl (.cons rfl (.cons rfl (.cons rfl (.cons rfl (.nil _)))))))
              refine x_then ?_
              obtain rfl := Option.some.inj h35
              exact ⟨K134, g100, g124, (v130), (v136), (hlK128.trans hlK134), (hS.part (.cons rfl (.cons rfl (.cons rfl (.cons rfl (.cons rfl (.nil _))))))), ((((hM.pull 2 rfl rfl).pull 3 rfl rfl).pull 2 rfl rfl).pull 3 rfl rfl), (Kd.sl_mono hlK134 f131), f137⟩
          ·
            skip
            refine e_alloc (cs := [Value.int .i64 (0), Value.int .i64 (0), strV (([] : List UInt8)), Value.slice none 0 0]) hM rfl ti_36 rfl fun g138 w hM => ?_
            refine pT hS rfl (by decide) (Dem.keep (fun _ => Rd.up (Hp.le.refl _) (hM.pull 1 rfl rfl).only) (Dem.keep (fun _ => Rd.up (Hp.le.refl _) (hM.pull 2 rfl rfl).only) Dem.nil)) fun a hS => ?_
            refine dk_two (i := 1) (j := 4) #[true, true, true, false, false, true, false, false] #[true, false, true, false, true, true, false, false] rfl rfl (by kernel_rfl) rfl rfl ?_ ?_
            ·
              skip
              obtain ⟨y140, h141, h35⟩ := bindO h35
              have hc143 := Law_Of_c hG h141 (Kd.sl_mono ((hlK17.trans hlK22).trans hlK24) f3) (Kd.sl_mono ((hlK17.trans hlK22).trans hlK24) f5) hM
              refine e_call rfl Tryd.func13 rfl rfl (args1 (hS.ev_ rfl)) hc143 ?_
              rintro _ w ⟨K142, v144, hlK142, hM, rfl, f145⟩
              refine ⟨_, rfl, ?_⟩
              refine pT hS rfl (by decide) (Dem.keep (fun _ => Rd.up hlK142 (hM.pull 1 rfl rfl).only) (Dem.wait (by kernel_rfl) Dem.nil)) fun a hS => ?_
              refine dk_two (i := 3) (j := 4) #[true, true, true, true, false, true, false, false] #[true, true, true, false, true, true, false, false] rfl rfl (by kernel_rfl) rfl rfl ?_ ?_
              ·
                skip
                obtain ⟨y146, h147, h35⟩ := bindO h35
                have hc149 := Law_Of_c hG h147 (Kd.sl_mono (((hlK17.trans hlK22).trans hlK24).trans hlK142) f8) (Kd.sl_mono (((hlK17.trans hlK22).trans hlK24).trans hlK142) f10) hM
                refine e_call rfl Tryd.func13 rfl rfl (args1 (hS.ev_ rfl)) hc149 ?_
                rintro _ w ⟨K148, v150, hlK148, hM, rfl, f151⟩
                refine ⟨_, rfl, ?_⟩
                refine pT hS rfl (by decide) (Dem.wait (by kernel_rfl) (Dem.wait (by kernel_rfl) Dem.nil)) fun a hS => ?_
                refine dk_one (i := 4) #[true, true, true, true, true, true, false, false] rfl (by kernel_rfl) rfl (e_alloc (cs := [Value.int .i64 (0), Value.int .i64 (0), strV (([] : List UInt8)), Value.slice none 0 0]) hM rfl ti_36 rfl fun g152 w hM => ?_)
                refine pT hS rfl (by decide) (Dem.keep (fun _ => Rd.up (hlK142.trans hlK148) (hM.pull 2 rfl rfl).only) (Dem.keep (fun _ => Rd.up (hlK142.trans hlK148) (hM.pull 3 rfl rfl).only) Dem.nil)) fun a hS => ?_
                refine dk_one (i := 6) #[true, true, true, true, true, true, true, false] rfl (by kernel_rfl) rfl (e_storeN (vs := [Value.int .i64 (y140.f_Kind), Value.int .i64 (y140.f_N), strV (y140.f_Bytes), v144]) hM rfl ti_36 (hS.ev_ rfl) (hS.ev_ rfl) (ones_cons rfl (ones_cons rfl (ones_cons rfl (ones_cons (sl_one f145) ones_nil)))) (Nat.le_of_ble_eq_true rfl) fun w hM => ?_)
                have hM : Sat w0 w K148 (SP.blk g152 36 [Value.int .i64 (y140.f_Kind), Value.int .i64 (y140.f_N), strV (y140.f_Bytes), v144] :: SP.blk g138 36 [Value.int .i64 (0), Value.int .i64 (0), strV (([] : List UInt8)), Value.slice none 0 0] :: SP.blk g13 25 [Value.int .i64 (p6.f_Kind), Value.int .i64 (p6.f_N), v7, v9] :: SP.blk g11 25 [Value.int .i64 (p1.f_Kind), Value.int .i64 (p1.f_N), v2, v4] :: L) := hM
                refine pT0 hS rfl (Dem.wait (by kernel_rfl) (Dem.wait (by kernel_rfl) Dem.nil)) fun a hS => ?_
                replace hM := hM.pull 1 rfl rfl
                refine dk_one (i := 7) #[true, true, true, true, true, true, true, true] rfl (by kernel_rfl) rfl (e_storeN (vs := [Value.int .i64 (y146.f_Kind), Value.int .i64 (y146.f_N), strV (y146.f_Bytes), v150]) hM rfl ti_36 (hS.ev_ rfl) (hS.ev_ rfl) (ones_cons rfl (ones_cons rfl (ones_cons rfl (ones_cons (sl_one f151) ones_nil)))) (Nat.le_of_ble_eq_true rfl) fun w hM => ?_)
                have hM : Sat w0 w K148 (SP.blk g138 36 [Value.int .i64 (y146.f_Kind), Value.int .i64 (y146.f_N), strV (y146.f_Bytes), v150] :: SP.blk g152 36 [Value.int .i64 (y140.f_Kind), Value.int .i64 (y140.f_N), strV (y140.f_Bytes), v144] :: SP.blk g13 25 [Value.int .i64 (p6.f_Kind), Value.int .i64 (p6.f_N), v7, v9] :: SP.blk g11 25 [Value.int .i64 (p1.f_Kind), Value.int .i64 (p1.f_N), v2, v4] :: L) := hM
                refine pT0 hS rfl (Dem.wait (by kernel_rfl) (Dem.wait (by kernel_rfl) Dem.nil)) fun a hS => ?_
                refine tk_done (by kernel_rfl) ?_
                replace hS : Slots 103 [] a [(5, Value.pointer (some ⟨g152, 0, none⟩)), (6, Value.pointer (some ⟨g138, 0, none⟩)), (2, Value.pointer (some ⟨g11, 0, none⟩)), (3, Value.pointer (some ⟨g13, 0, none⟩)), (4, Value.bool (false))] := (hS.part (.cons rfl (.cons rfl (.cons rfl (.cons rfl (.cons rfl (.nil _)))))))
                refine x_then ?_
                obtain rfl := Option.some.inj h35
                exact ⟨K148, g152, g138, (v144), (v150), (hlK142.trans hlK148), (hS.part (.cons rfl (.cons rfl (.cons rfl (.cons rfl (.cons rfl (.nil _))))))), ((((hM.pull 2 rfl rfl).pull 3 rfl rfl).pull 2 rfl rfl).pull 3 rfl rfl), (Kd.sl_mono hlK148 f145), f151⟩
              ·
                skip
                refine e_alloc (cs := [Value.int .i64 (0), Value.int .i64 (0), strV (([] : List UInt8)), Value.slice none 0 0]) hM rfl ti_36 rfl fun g154 w hM => ?_
                refine pT hS rfl (by decide) (Dem.keep (fun _ => Rd.up hlK142 (hM.pull 2 rfl rfl).only) (Dem.keep (fun _ => Rd.up hlK142 (hM.pull 3 rfl rfl).only) Dem.nil)) fun a hS => ?_
                obtain ⟨y156, h157, h35⟩ := bindO h35
                have hc159 := Law_Of_c hG h157 (Kd.sl_mono (((hlK17.trans hlK22).trans hlK24).trans hlK142) f8) (Kd.sl_mono (((hlK17.trans hlK22).trans hlK24).trans hlK142) f10) hM
                refine dk_one (i := 3) #[true, true, true, true, true, true, false, false] rfl (by kernel_rfl) rfl (e_call rfl Tryd.func13 rfl rfl (args1 (hS.ev_ rfl)) hc159 ?_)
                rintro _ w ⟨K158, v160, hlK158, hM, rfl, f161⟩
                refine ⟨_, rfl, ?_⟩
                refine pT hS rfl (by decide) (Dem.wait (by kernel_rfl) (Dem.wait (by kernel_rfl) Dem.nil)) fun a hS => ?_
                refine dk_one (i := 6) #[true, true, true, true, true, true, true, false] rfl (by kernel_rfl) rfl (e_storeN (vs := [Value.int .i64 (y140.f_Kind), Value.int .i64 (y140.f_N), strV (y140.f_Bytes), v144]) hM rfl ti_36 (hS.ev_ rfl) (hS.ev_ rfl) (ones_cons rfl (ones_cons rfl (ones_cons rfl (ones_cons (sl_one f145) ones_nil)))) (Nat.le_of_ble_eq_true rfl) fun w hM => ?_)
                have hM : Sat w0 w K158 (SP.blk g154 36 [Value.int .i64 (y140.f_Kind), Value.int .i64 (y140.f_N), strV (y140.f_Bytes), v144] :: SP.blk g138 36 [Value.int .i64 (0), Value.int .i64 (0), strV (([] : List UInt8)), Value.slice none 0 0] :: SP.blk g13 25 [Value.int .i64 (p6.f_Kind), Value.int .i64 (p6.f_N), v7, v9] :: SP.blk g11 25 [Value.int .i64 (p1.f_Kind), Value.int .i64 (p1.f_N), v2, v4] :: L) := hM
                refine pT0 hS rfl (Dem.wait (by kernel_rfl) (Dem.wait (by kernel_rfl) Dem.nil)) fun a hS => ?_
                replace hM := hM.pull 1 rfl rfl
                refine dk_one (i := 7) #[true, true, true, true, true, true, true, true] rfl (by kernel_rfl) rfl (e_storeN (vs := [Value.int .i64 (y156.f_Kind), Value.int .i64 (y156.f_N), strV (y156.f_Bytes), v160]) hM rfl ti_36 (hS.ev_ rfl) (hS.ev_ rfl) (ones_cons rfl (ones_cons rfl (ones_cons rfl (ones_cons (sl_one f161) ones_nil)))) (Nat.le_of_ble_eq_true rfl) fun w hM => ?_)
                have hM : Sat w0 w K158 (SP.blk g138 36 [Value.int .i64 (y156.f_Kind), Value.int .i64 (y156.f_N), strV (y156.f_Bytes), v160] :: SP.blk g154 36 [Value.int .i64 (y140.f_Kind), Value.int .i64 (y140.f_N), strV (y140.f_Bytes), v144] :: SP.blk g13 25 [Value.int .i64 (p6.f_Kind), Value.int .i64 (p6.f_N), v7, v9] :: SP.blk g11 25 [Value.int .i64 (p1.f_Kind), Value.int .i64 (p1.f_N), v2, v4] :: L) := hM
                refine pT0 hS rfl (Dem.wait (by kernel_rfl) (Dem.wait (by kernel_rfl) Dem.nil)) fun a hS => ?_
                refine tk_done (by kernel_rfl) ?_
                replace hS : Slots 103 [] a [(5, Value.pointer (some ⟨g154, 0, none⟩)), (6, Value.pointer (some ⟨g138, 0, none⟩)), (2, Value.pointer (some ⟨g11, 0, none⟩)), (3, Value.pointer (some ⟨g13, 0, none⟩)), (4, Value.bool (false))] := (hS.part (.cons rfl (.cons rfl (.cons rfl (.cons rfl (.cons rfl (.nil _)))))))
                refine x_then ?_
                obtain rfl := Option.some.inj h35
                exact ⟨K158, g154, g138, (v144), (v160), (hlK142.trans hlK158), (hS.part (.cons rfl (.cons rfl (.cons rfl (.cons rfl (.cons rfl (.nil _))))))), ((((hM.pull 2 rfl rfl).pull 3 rfl rfl).pull 2 rfl rfl).pull 3 rfl rfl), (Kd.sl_mono hlK158 f145), f161⟩
            ·
              skip
              refine e_alloc (cs := [Value.int .i64 (0), Value.int .i64 (0), strV (([] : List UInt8)), Value.slice none 0 0]) hM rfl ti_36 rfl fun g162 w hM => ?_
              refine pT hS rfl (by decide) (Dem.keep (fun _ => Rd.up (Hp.le.refl _) (hM.pull 2 rfl rfl).only) (Dem.keep (fun _ => Rd.up (Hp.le.refl _) (hM.pull 3 rfl rfl).only) Dem.nil)) fun a hS => ?_
              obtain ⟨y164, h165, h35⟩ := bindO h35
              have hc167 := Law_Of_c hG h165 (Kd.sl_mono ((hlK17.trans hlK22).trans hlK24) f3) (Kd.sl_mono ((hlK17.trans hlK22).trans hlK24) f5) hM
              refine dk_one (i := 1) #[true, true, true, false, true, true, false, false] rfl (by kernel_rfl) rfl (e_call rfl Tryd.func13 rfl rfl (args1 (hS.ev_ rfl)) hc167 ?_)
              rintro _ w ⟨K166, v168, hlK166, hM, rfl, f169⟩
              refine ⟨_, rfl, ?_⟩
              refine pT hS rfl (by decide) (Dem.keep (fun _ => Rd.up hlK166 (hM.pull 2 rfl rfl).only) (Dem.wait (by kernel_rfl) Dem.nil)) fun a hS => ?_
              obtain ⟨y170, h171, h35⟩ := bindO h35
              have hc173 := Law_Of_c hG h171 (Kd.sl_mono (((hlK17.trans hlK22).trans hlK24).trans hlK166) f8) (Kd.sl_mono (((hlK17.trans hlK22).trans hlK24).trans hlK166) f10) hM
              refine dk_one (i := 3) #[true, true, true, true, true, true, false, false] rfl (by kernel_rfl) rfl (e_call rfl Tryd.func13 rfl rfl (args1 (hS.ev_ rfl)) hc173 ?_)
              rintro _ w ⟨K172, v174, hlK172, hM, rfl, f175⟩
              refine ⟨_, rfl, ?_⟩
              refine pT hS rfl (by decide) (Dem.wait (by kernel_rfl) (Dem.wait (by kernel_rfl) Dem.nil)) fun a hS => ?_
              refine dk_one (i := 6) #[true, true, true, true, true, true, true, false] rfl (by kernel_rfl) rfl (e_storeN (vs := [Value.int .i64 (y164.f_Kind), Value.int .i64 (y164.f_N), strV (y164.f_Bytes), v168]) hM rfl ti_36 (hS.ev_ rfl) (hS.ev_ rfl) (ones_cons rfl (ones_cons rfl (ones_cons rfl (ones_cons (sl_one f169) ones_nil)))) (Nat.le_of_ble_eq_true rfl) fun w hM => ?_)
              have hM : Sat w0 w K172 (SP.blk g162 36 [Value.int .i64 (y164.f_Kind), Value.int .i64 (y164.f_N), strV (y164.f_Bytes), v168] :: SP.blk g138 36 [Value.int .i64 (0), Value.int .i64 (0), strV (([] : List UInt8)), Value.slice none 0 0] :: SP.blk g13 25 [Value.int .i64 (p6.f_Kind), Value.int .i64 (p6.f_N), v7, v9] :: SP.blk g11 25 [Value.int .i64 (p1.f_Kind), Value.int .i64 (p1.f_N), v2, v4] :: L) := hM
              refine pT0 hS rfl (Dem.wait (by kernel_rfl) (Dem.wait (by kernel_rfl) Dem.nil)) fun a hS => ?_
              replace hM := hM.pull 1 rfl rfl
              refine dk_one (i := 7) #[true, true, true, true, true, true, true, true] rfl (by kernel_rfl) rfl (e_storeN (vs := [Value.int .i64 (y170.f_Kind), Value.int .i64 (y170.f_N), strV (y170.f_Bytes), v174]) hM rfl ti_36 (hS.ev_ rfl) (hS.ev_ rfl) (ones_cons rfl (ones_cons rfl (ones_cons rfl (ones_cons (sl_one f175) ones_nil)))) (Nat.le_of_ble_eq_true rfl) fun w hM => ?_)
              have hM : Sat w0 w K172 (SP.blk g138 36 [Value.int .i64 (y170.f_Kind), Value.int .i64 (y170.f_N), strV (y170.f_Bytes), v174] :: SP.blk g162 36 [Value.int .i64 (y164.f_Kind), Value.int .i64 (y164.f_N), strV (y164.f_Bytes), v168] :: SP.blk g13 25 [Value.int .i64 (p6.f_Kind), Value.int .i64 (p6.f_N), v7, v9] :: SP.blk g11 25 [Value.int .i64 (p1.f_Kind), Value.int .i64 (p1.f_N), v2, v4] :: L) := hM
              refine pT0 hS rfl (Dem.wait (by kernel_rfl) (Dem.wait (by kernel_rfl) Dem.nil)) fun a hS => ?_
              refine tk_done (by kernel_rfl) ?_
              replace hS : Slots 103 [] a [(5, Value.pointer (some ⟨g162, 0, none⟩)), (6, Value.pointer (some ⟨g138, 0, none⟩)), (2, Value.pointer (some ⟨g11, 0, none⟩)), (3, Value.pointer (some ⟨g13, 0, none⟩)), (4, Value.bool (false))] := (hS.part (.cons rfl (.cons rfl (.cons rfl (.cons rfl (.cons rfl (.nil _)))))))
              refine x_then ?_
              obtain rfl := Option.some.inj h35
              exact ⟨K172, g162, g138, (v168), (v174), (hlK166.trans hlK172), (hS.part (.cons rfl (.cons rfl (.cons rfl (.cons rfl (.cons rfl (.nil _))))))), ((((hM.pull 2 rfl rfl).pull 3 rfl rfl).pull 2 rfl rfl).pull 3 rfl rfl), (Kd.sl_mono hlK172 f169), f175⟩
        · rintro a w ⟨K33, g37, g41, v38, v42, hlK33, hS, hM, f39, f43⟩
          refine wp_seq ?_
          refine wp_region_lit ?_
          refine st_val hS rfl rfl (by decide) (r_ldN_b (cs' := [Value.int .i64 (x34.1), Value.int .i64 (x34.2.1), strV (x34.2.2.1), v38]) rfl ag_36 ti_36 (hS.ev_ rfl) rfl (Rd.of hM)) fun a hS => ?_
          obtain ⟨y176, h177, h⟩ := bindO h
          have hc179 := R_Right_c hG h177 f39 hM
          refine wl_cons rfl (e_call rfl Tryd.func14 rfl rfl (args1 (hS.ev_ rfl)) hc179 ?_)
          rintro _ w ⟨K178, hlK178, hM, rfl⟩
          refine ⟨_, rfl, ?_⟩
          refine pl hS rfl (by decide) fun a hS => ?_
          refine st_val hS rfl rfl (by decide) (r_assign rfl (hS.ev_ rfl)) fun a hS => ?_
          refine st_done ?_
          replace hS : Slots 103 [] a [(7, Value.bool (y176)), (2, Value.pointer (some ⟨g11, 0, none⟩)), (3, Value.pointer (some ⟨g13, 0, none⟩)), (4, Value.bool (false)), (5, Value.pointer (some ⟨g37, 0, none⟩)), (6, Value.pointer (some ⟨g41, 0, none⟩))] := (hS.part (.cons rfl (.cons rfl (.cons rfl (.cons rfl (.cons rfl (.cons rfl (.nil _))))))))
          refine x_then ?_
          refine wp_seq ?_
          refine wp_region_lit ?_
          refine st_val hS rfl rfl (by decide) (r_assign rfl (hS.ev_ (v := strV (([] : List UInt8))) rfl)) fun a hS => ?_
          refine st_done ?_
          replace hS : Slots 103 [] a [(8, strV (([] : List UInt8))), (7, Value.bool (y176)), (2, Value.pointer (some ⟨g11, 0, none⟩)), (3, Value.pointer (some ⟨g13, 0, none⟩)), (4, Value.bool (false)), (5, Value.pointer (some ⟨g37, 0, none⟩)), (6, Value.pointer (some ⟨g41, 0, none⟩))] := (hS.part (.cons rfl (.cons rfl (.cons rfl (.cons rfl (.cons rfl (.cons rfl (.cons rfl (.nil _)))))))))
          refine x_then ?_
          refine wp_seq ?_
          refine wp_region_lit ?_
          refine st_val hS rfl rfl (by decide) (r_build (cs := [Value.int .i64 (0), Value.int .i64 (0), Value.int .i64 (0)]) rfl (parts_ev hS rfl) (by kernel_rfl)) fun a hS => ?_
          refine wl_cons rfl (e_alloc (cs := [Value.int .i64 (0), Value.int .i64 (0), Value.int .i64 (0)]) hM rfl ti_39 rfl fun g180 w hM => ?_)
          refine pl hS rfl (by decide) fun a hS => ?_
          refine wl_cons rfl (e_storeN (vs := [Value.int .i64 (0), Value.int .i64 (0), Value.int .i64 (0)]) hM rfl ti_39 (hS.ev_ rfl) (hS.ev_ rfl) (ones_cons rfl (ones_cons rfl (ones_cons rfl ones_nil))) (Nat.le_of_ble_eq_true rfl) fun w hM => ?_)
          have hM : Sat w0 w K178 (SP.blk g180 39 [Value.int .i64 (0), Value.int .i64 (0), Value.int .i64 (0)] :: SP.blk g37 36 [Value.int .i64 (x34.1), Value.int .i64 (x34.2.1), strV (x34.2.2.1), v38] :: SP.blk g41 36 [Value.int .i64 (x34.2.2.2.2.1), Value.int .i64 (x34.2.2.2.2.2.1), strV (x34.2.2.2.2.2.2.1), v42] :: SP.blk g11 25 [Value.int .i64 (p1.f_Kind), Value.int .i64 (p1.f_N), v2, v4] :: SP.blk g13 25 [Value.int .i64 (p6.f_Kind), Value.int .i64 (p6.f_N), v7, v9] :: L) := hM
          refine pl0 hS rfl fun a hS => ?_
          refine st_done ?_
          replace hS : Slots 103 [] a [(9, Value.pointer (some ⟨g180, 0, none⟩)), (8, strV (([] : List UInt8))), (7, Value.bool (y176)), (2, Value.pointer (some ⟨g11, 0, none⟩)), (3, Value.pointer (some ⟨g13, 0, none⟩)), (4, Value.bool (false)), (5, Value.pointer (some ⟨g37, 0, none⟩)), (6, Value.pointer (some ⟨g41, 0, none⟩))] := (hS.part (.cons rfl (.cons rfl (.cons rfl (.cons rfl (.cons rfl (.cons rfl (.cons rfl (.cons rfl (.nil _))))))))))
          refine x_then ?_
          refine wp_seq ?_
          refine wp_seq ?_
          refine wp_region_lit ?_
          replace hM := hM.pull 1 rfl rfl
          refine st_val hS rfl rfl (by decide) (r_ldN_b (cs' := [Value.int .i64 (x34.1), Value.int .i64 (x34.2.1), strV (x34.2.2.1), v38]) rfl ag_36 ti_36 (hS.ev_ rfl) rfl (Rd.of hM)) fun a hS => ?_
          replace hM := hM.pull 2 rfl rfl
          refine st_val hS rfl rfl (by decide) (r_ldN_b (cs' := [Value.int .i64 (x34.2.2.2.2.1), Value.int .i64 (x34.2.2.2.2.2.1), strV (x34.2.2.2.2.2.2.1), v42]) rfl ag_36 ti_36 (hS.ev_ rfl) rfl (Rd.of hM)) fun a hS => ?_
          refine wl_cons rfl (e_litK (d := kR_Event) (e := 36) (cs := [Value.int .i64 (x34.1), Value.int .i64 (x34.2.1), strV (x34.2.2.1), v38, Value.int .i64 (x34.2.2.2.2.1), Value.int .i64 (x34.2.2.2.2.2.1), strV (x34.2.2.2.2.2.2.1), v42]) (xs := [(⟨x34.1, x34.2.1, x34.2.2.1, x34.2.2.2.1⟩ : R_Event), (⟨x34.2.2.2.2.1, x34.2.2.2.2.2.1, x34.2.2.2.2.2.2.1, x34.2.2.2.2.2.2.2⟩ : R_Event)]) hM rfl (parts_ev hS rfl) (by obtain ⟨_, _, hvv, _⟩ := sl_val f39; rw [hvv]; clear hvv; obtain ⟨_, _, hvv, _⟩ := sl_val f43; rw [hvv]; clear hvv; kernel_rfl) ⟨[Value.int .i64 (x34.1), Value.int .i64 (x34.2.1), strV (x34.2.2.1), v38], [Value.int .i64 (x34.2.2.2.2.1), Value.int .i64 (x34.2.2.2.2.2.1), strV (x34.2.2.2.2.2.2.1), v42], rfl, (kR_Event_shut (Kd.sl_mono hlK178 f39)), ⟨[Value.int .i64 (x34.2.2.2.2.1), Value.int .i64 (x34.2.2.2.2.2.1), strV (x34.2.2.2.2.2.2.1), v42], [], rfl, (kR_Event_shut (Kd.sl_mono hlK178 f43)), rfl⟩⟩ rfl (by decide) fun v182 K183 w hlK183 hM f184 => ?_)
          refine pl hS rfl (by decide) fun a hS => ?_
          refine st_val hS rfl rfl (by decide) (r_len_sl rfl un_40 (hS.ev_ rfl) f184) fun a hS => ?_
          refine st_val hS rfl rfl (by decide) (r_move rfl (hS.ev_ rfl)) fun a hS => ?_
          refine st_done ?_
          replace hS : Slots 103 [] a [(34, Value.int .i64 (0)), (33, Value.int .i64 (([(⟨x34.1, x34.2.1, x34.2.2.1, x34.2.2.2.1⟩ : R_Event), (⟨x34.2.2.2.2.1, x34.2.2.2.2.2.1, x34.2.2.2.2.2.2.1, x34.2.2.2.2.2.2.2⟩ : R_Event)].length : Int))), (32, v182), (9, Value.pointer (some ⟨g180, 0, none⟩)), (8, strV (([] : List UInt8))), (7, Value.bool (y176)), (2, Value.pointer (some ⟨g11, 0, none⟩)), (3, Value.pointer (some ⟨g13, 0, none⟩)), (4, Value.bool (false)), (5, Value.pointer (some ⟨g37, 0, none⟩)), (6, Value.pointer (some ⟨g41, 0, none⟩))] := (hS.part (.cons rfl (.cons rfl (.cons rfl (.cons rfl (.cons rfl (.cons rfl (.cons rfl (.cons rfl (.cons rfl (.cons rfl (.cons rfl (.nil _)))))))))))))
          refine x_then ?_
          refine wp_block ?_
          obtain ⟨o196, h197, h⟩ := bindO h
          refine c_loop_ways (fun e a w => (e = .exit 0 ∧ ∃ (K198 : Hp), Hp.le K183 K198 ∧ Slots 103 [] a [(2, Value.pointer (some ⟨g11, 0, none⟩)), (3, Value.pointer (some ⟨g13, 0, none⟩)), (4, Value.bool (false)), (5, Value.pointer (some ⟨g37, 0, none⟩)), (6, Value.pointer (some ⟨g41, 0, none⟩)), (7, Value.bool (y176)), (8, strV (([] : List UInt8))), (9, Value.pointer (some ⟨g180, 0, none⟩))] ∧ Sat w0 w K198 (SP.blk g41 36 [Value.int .i64 (x34.2.2.2.2.1), Value.int .i64 (x34.2.2.2.2.2.1), strV (x34.2.2.2.2.2.2.1), v42] :: SP.blk g37 36 [Value.int .i64 (x34.1), Value.int .i64 (x34.2.1), strV (x34.2.2.1), v38] :: SP.blk g180 39 [Value.int .i64 (o196.1), Value.int .i64 (o196.2.1), Value.int .i64 (o196.2.2)] :: SP.blk g11 25 [Value.int .i64 (p1.f_Kind), Value.int .i64 (p1.f_N), v2, v4] :: SP.blk g13 25 [Value.int .i64 (p6.f_Kind), Value.int .i64 (p6.f_N), v7, v9] :: L))) ?_ ?_
          · intro c Q hc hQ
            have key : ∀ (x192 : Int) (x193 : Int) (x194 : Int) (x195 : Int) (r' : Int × Int × Int), Law_RawEvents_l1 x34 x192 x193 x194 x195 = some r' → r' = o196 → ∀ (K191 : Hp) (a : Act) (w : World), Hp.le K183 K191 → Slots 103 [] a [(34, Value.int .i64 (x192)), (33, Value.int .i64 (([(⟨x34.1, x34.2.1, x34.2.2.1, x34.2.2.2.1⟩ : R_Event), (⟨x34.2.2.2.2.1, x34.2.2.2.2.2.1, x34.2.2.2.2.2.2.1, x34.2.2.2.2.2.2.2⟩ : R_Event)].length : Int))), (32, v182), (9, Value.pointer (some ⟨g180, 0, none⟩)), (8, strV (([] : List UInt8))), (7, Value.bool (y176)), (2, Value.pointer (some ⟨g11, 0, none⟩)), (3, Value.pointer (some ⟨g13, 0, none⟩)), (4, Value.bool (false)), (5, Value.pointer (some ⟨g37, 0, none⟩)), (6, Value.pointer (some ⟨g41, 0, none⟩))] → Sat w0 w K191 (SP.blk g41 36 [Value.int .i64 (x34.2.2.2.2.1), Value.int .i64 (x34.2.2.2.2.2.1), strV (x34.2.2.2.2.2.2.1), v42] :: SP.blk g37 36 [Value.int .i64 (x34.1), Value.int .i64 (x34.2.1), strV (x34.2.2.1), v38] :: SP.blk g180 39 [Value.int .i64 (x193), Value.int .i64 (x194), Value.int .i64 (x195)] :: SP.blk g11 25 [Value.int .i64 (p1.f_Kind), Value.int .i64 (p1.f_N), v2, v4] :: SP.blk g13 25 [Value.int .i64 (p6.f_Kind), Value.int .i64 (p6.f_N), v7, v9] :: L) → Rnd Tryd.prog c Q a w := by
              refine Law_RawEvents_l1.partial_correctness x34 _ ?_
              intro Law_RawEvents_l1_rec ih x192 x193 x194 x195 r' h hr K191  a w hlK191 hS hM 
              subst hc
              refine c_round ?_
              refine wp_seq ?_
              refine wp_region_lit ?_
              refine st_val hS rfl rfl (by decide) (r_cmp rfl (hS.ev_ rfl) (hS.ev_ rfl) rfl) fun a hS => ?_
              refine st_done ?_
              replace hS : Slots 103 [] a [(35, Value.bool (decide (x192 < (([(⟨x34.1, x34.2.1, x34.2.2.1, x34.2.2.2.1⟩ : R_Event), (⟨x34.2.2.2.2.1, x34.2.2.2.2.2.1, x34.2.2.2.2.2.2.1, x34.2.2.2.2.2.2.2⟩ : R_Event)].length : Int))))), (34, Value.int .i64 (x192)), (33, Value.int .i64 (([(⟨x34.1, x34.2.1, x34.2.2.1, x34.2.2.2.1⟩ : R_Event), (⟨x34.2.2.2.2.1, x34.2.2.2.2.2.1, x34.2.2.2.2.2.2.1, x34.2.2.2.2.2.2.2⟩ : R_Event)].length : Int))), (32, v182), (9, Value.pointer (some ⟨g180, 0, none⟩)), (8, strV (([] : List UInt8))), (7, Value.bool (y176)), (2, Value.pointer (some ⟨g11, 0, none⟩)), (3, Value.pointer (some ⟨g13, 0, none⟩)), (4, Value.bool (false)), (5, Value.pointer (some ⟨g37, 0, none⟩)), (6, Value.pointer (some ⟨g41, 0, none⟩))] := (hS.part (.cons rfl (.cons rfl (.cons rfl (.cons rfl (.cons rfl (.cons rfl (.cons rfl (.cons rfl (.cons rfl (.cons rfl (.cons rfl (.cons rfl (.nil _))))))))))))))
              refine x_then ?_
              refine wp_seq ?_
              rcases ifB h with ⟨hc199, h⟩ | ⟨hc199, h⟩
              · refine c_cond_true (hS.ev_ rfl) hc199 ?_
                refine wp_skip ?_
                refine x_then ?_
                obtain ⟨x201, h202, h⟩ := bindO h
                refine c_cut (fun a w => ∃ (K200 : Hp), Hp.le K191 K200 ∧ Slots 103 [] a [(2, Value.pointer (some ⟨g11, 0, none⟩)), (3, Value.pointer (some ⟨g13, 0, none⟩)), (4, Value.bool (false)), (5, Value.pointer (some ⟨g37, 0, none⟩)), (6, Value.pointer (some ⟨g41, 0, none⟩)), (7, Value.bool (y176)), (8, strV (([] : List UInt8))), (9, Value.pointer (some ⟨g180, 0, none⟩)), (32, v182), (33, Value.int .i64 (([(⟨x34.1, x34.2.1, x34.2.2.1, x34.2.2.2.1⟩ : R_Event), (⟨x34.2.2.2.2.1, x34.2.2.2.2.2.1, x34.2.2.2.2.2.2.1, x34.2.2.2.2.2.2.2⟩ : R_Event)].length : Int))), (34, Value.int .i64 (x192))] ∧ Sat w0 w K200 (SP.blk g41 36 [Value.int .i64 (x34.2.2.2.2.1), Value.int .i64 (x34.2.2.2.2.2.1), strV (x34.2.2.2.2.2.2.1), v42] :: SP.blk g37 36 [Value.int .i64 (x34.1), Value.int .i64 (x34.2.1), strV (x34.2.2.1), v38] :: SP.blk g180 39 [Value.int .i64 (x201.1), Value.int .i64 (x201.2.1), Value.int .i64 (x201.2.2)] :: SP.blk g11 25 [Value.int .i64 (p1.f_Kind), Value.int .i64 (p1.f_N), v2, v4] :: SP.blk g13 25 [Value.int .i64 (p6.f_Kind), Value.int .i64 (p6.f_N), v7, v9] :: L)) ?_ ?_
                ·
                  refine wp_block ?_
                  refine wp_seq ?_
                  refine wp_region_lit ?_
                  obtain ⟨e203, h204, h202⟩ := bindO h202
                  obtain ⟨ad205, cp206, cs207, hv208, hr209, h0_210, h1_211, hq212⟩ := sl_at f184 h204 (by decide)
                  obtain ⟨v213, rfl, f214⟩ := kR_Event_open hr209
                  refine st_val hS rfl rfl (by decide) (r_idx_sl rfl un_40 ti_36 (hS.ev_ rfl) hv208 (hS.ev_ rfl) h0_210 h1_211) fun a hS => ?_
                  refine st_val hS rfl rfl (by decide) (r_ldN_k (cs' := [Value.int .i64 (e203.f_Kind), Value.int .i64 (e203.f_N), strV (e203.f_Bytes), v213]) rfl ag_36 ti_36 (hS.ev_ rfl) hq212 rfl (Rd.up hlK191 hM.nil_)) fun a hS => ?_
                  refine wl_cons rfl (e_alloc (cs := [Value.int .i64 (0), Value.int .i64 (0), strV (([] : List UInt8)), Value.slice none 0 0]) hM rfl ti_36 rfl fun g215 w hM => ?_)
                  refine pl hS rfl (by decide) fun a hS => ?_
                  refine wl_cons rfl (e_storeN (vs := [Value.int .i64 (e203.f_Kind), Value.int .i64 (e203.f_N), strV (e203.f_Bytes), v213]) hM rfl ti_36 (hS.ev_ rfl) (hS.ev_ rfl) (ones_cons rfl (ones_cons rfl (ones_cons rfl (ones_cons (sl_one f214) ones_nil)))) (Nat.le_of_ble_eq_true rfl) fun w hM => ?_)
                  have hM : Sat w0 w K191 (SP.blk g215 36 [Value.int .i64 (e203.f_Kind), Value.int .i64 (e203.f_N), strV (e203.f_Bytes), v213] :: SP.blk g41 36 [Value.int .i64 (x34.2.2.2.2.1), Value.int .i64 (x34.2.2.2.2.2.1), strV (x34.2.2.2.2.2.2.1), v42] :: SP.blk g37 36 [Value.int .i64 (x34.1), Value.int .i64 (x34.2.1), strV (x34.2.2.1), v38] :: SP.blk g180 39 [Value.int .i64 (x193), Value.int .i64 (x194), Value.int .i64 (x195)] :: SP.blk g11 25 [Value.int .i64 (p1.f_Kind), Value.int .i64 (p1.f_N), v2, v4] :: SP.blk g13 25 [Value.int .i64 (p6.f_Kind), Value.int .i64 (p6.f_N), v7, v9] :: L) := hM
                  refine pl0 hS rfl fun a hS => ?_
                  refine st_done ?_
                  replace hS : Slots 103 [] a [(11, Value.pointer (some ⟨g215, 0, none⟩)), (34, Value.int .i64 (x192)), (33, Value.int .i64 (([(⟨x34.1, x34.2.1, x34.2.2.1, x34.2.2.2.1⟩ : R_Event), (⟨x34.2.2.2.2.1, x34.2.2.2.2.2.1, x34.2.2.2.2.2.2.1, x34.2.2.2.2.2.2.2⟩ : R_Event)].length : Int))), (32, v182), (9, Value.pointer (some ⟨g180, 0, none⟩)), (8, strV (([] : List UInt8))), (7, Value.bool (y176)), (2, Value.pointer (some ⟨g11, 0, none⟩)), (3, Value.pointer (some ⟨g13, 0, none⟩)), (4, Value.bool (false)), (5, Value.pointer (some ⟨g37, 0, none⟩)), (6, Value.pointer (some ⟨g41, 0, none⟩))] := (hS.part (.cons rfl (.cons rfl (.cons rfl (.cons rfl (.cons rfl (.cons rfl (.cons rfl (.cons rfl (.cons rfl (.cons rfl (.cons rfl (.cons rfl (.nil _))))))))))))))
                  refine x_then ?_
                  refine wp_seq ?_
                  refine wp_region_lit ?_
                  refine st_val hS rfl rfl (by decide) (r_ldN_b (cs' := [Value.int .i64 (e203.f_Kind), Value.int .i64 (e203.f_N), strV (e203.f_Bytes), v213]) rfl ag_36 ti_36 (hS.ev_ rfl) rfl (Rd.of hM)) fun a hS => ?_
                  obtain ⟨y217, h218, h202⟩ := bindO h202
                  have hc220 := R_Right_c hG h218 (Kd.sl_mono hlK191 f214) hM
                  refine wl_cons rfl (e_call rfl Tryd.func14 rfl rfl (args1 (hS.ev_ rfl)) hc220 ?_)
                  rintro _ w ⟨K219, hlK219, hM, rfl⟩
                  refine ⟨_, rfl, ?_⟩
                  refine pl hS rfl (by decide) fun a hS => ?_
                  refine st_done ?_
                  replace hS : Slots 103 [] a [(39, Value.bool (y217)), (11, Value.pointer (some ⟨g215, 0, none⟩)), (34, Value.int .i64 (x192)), (33, Value.int .i64 (([(⟨x34.1, x34.2.1, x34.2.2.1, x34.2.2.2.1⟩ : R_Event), (⟨x34.2.2.2.2.1, x34.2.2.2.2.2.1, x34.2.2.2.2.2.2.1, x34.2.2.2.2.2.2.2⟩ : R_Event)].length : Int))), (32, v182), (9, Value.pointer (some ⟨g180, 0, none⟩)), (8, strV (([] : List UInt8))), (7, Value.bool (y176)), (2, Value.pointer (some ⟨g11, 0, none⟩)), (3, Value.pointer (some ⟨g13, 0, none⟩)), (4, Value.bool (false)), (5, Value.pointer (some ⟨g37, 0, none⟩)), (6, Value.pointer (some ⟨g41, 0, none⟩))] := (hS.part (.cons rfl (.cons rfl (.cons rfl (.cons rfl (.cons rfl (.cons rfl (.cons rfl (.cons rfl (.cons rfl (.cons rfl (.cons rfl (.cons rfl (.cons rfl (.nil _)))))))))))))))
                  refine x_then ?_
                  rcases ifB h202 with ⟨hc221, h202⟩ | ⟨hc221, h202⟩
                  · refine c_cond_true (hS.ev_ rfl) hc221 ?_
                    refine wp_seq ?_
                    refine wp_region_lit ?_
                    refine st_val hS rfl rfl (by decide) (r_idx_ar (i := 0) rfl ar_39 ti_3 (hS.ev_ rfl) (hS.ev_ (v := Value.int .i64 ((0 : Nat) : Int)) rfl) (by decide)) fun a hS => ?_
                    replace hM := hM.pull 3 rfl rfl
                    refine st_val hS rfl rfl (by decide) (r_ld1_b rfl ag_3 (hS.ev_ rfl) rfl (Rd.of hM)) fun a hS => ?_
                    refine st_val hS rfl rfl (by decide) (r_fld_b rfl fo_36_2 (hS.ev_ rfl)) fun a hS => ?_
                    replace hM := hM.pull 1 rfl rfl
                    refine st_val hS rfl rfl (by decide) (r_ld1_b rfl ag_9 (hS.ev_ rfl) rfl (Rd.of hM)) fun a hS => ?_
                    refine st_val hS rfl rfl (by decide) (r_len_str rfl un_9 (hS.ev_ rfl)) fun a hS => ?_
                    refine st_val hS rfl rfl (by decide) (r_add rfl (hS.ev_ rfl) (hS.ev_ rfl)) fun a hS => ?_
                    refine st_val hS rfl rfl (by decide) (r_idx_ar (i := 0) rfl ar_39 ti_3 (hS.ev_ rfl) (hS.ev_ (v := Value.int .i64 ((0 : Nat) : Int)) rfl) (by decide)) fun a hS => ?_
                    replace hM := hM.pull 1 rfl rfl
                    refine wl_cons rfl (e_store1 hM rfl ti_3 (hS.ev_ rfl) (hS.ev_ rfl) rfl (Nat.lt_of_lt_of_le (Nat.le_of_ble_eq_true rfl) (Nat.le_refl _)) fun w hM => ?_)
                    have hM : Sat w0 w K219 (SP.blk g180 39 [Value.int .i64 (w64 (x193 + ((e203.f_Bytes.length : Int)))), Value.int .i64 (x194), Value.int .i64 (x195)] :: SP.blk g215 36 [Value.int .i64 (e203.f_Kind), Value.int .i64 (e203.f_N), strV (e203.f_Bytes), v213] :: SP.blk g41 36 [Value.int .i64 (x34.2.2.2.2.1), Value.int .i64 (x34.2.2.2.2.2.1), strV (x34.2.2.2.2.2.2.1), v42] :: SP.blk g37 36 [Value.int .i64 (x34.1), Value.int .i64 (x34.2.1), strV (x34.2.2.1), v38] :: SP.blk g11 25 [Value.int .i64 (p1.f_Kind), Value.int .i64 (p1.f_N), v2, v4] :: SP.blk g13 25 [Value.int .i64 (p6.f_Kind), Value.int .i64 (p6.f_N), v7, v9] :: L) := hM
                    refine pl0 hS rfl fun a hS => ?_
                    refine st_done ?_
                    replace hS : Slots 103 [] a [(11, Value.pointer (some ⟨g215, 0, none⟩)), (34, Value.int .i64 (x192)), (33, Value.int .i64 (([(⟨x34.1, x34.2.1, x34.2.2.1, x34.2.2.2.1⟩ : R_Event), (⟨x34.2.2.2.2.1, x34.2.2.2.2.2.1, x34.2.2.2.2.2.2.1, x34.2.2.2.2.2.2.2⟩ : R_Event)].length : Int))), (32, v182), (9, Value.pointer (some ⟨g180, 0, none⟩)), (8, strV (([] : List UInt8))), (7, Value.bool (y176)), (2, Value.pointer (some ⟨g11, 0, none⟩)), (3, Value.pointer (some ⟨g13, 0, none⟩)), (4, Value.bool (false)), (5, Value.pointer (some ⟨g37, 0, none⟩)), (6, Value.pointer (some ⟨g41, 0, none⟩))] := (hS.part (.cons rfl (.cons rfl (.cons rfl (.cons rfl (.cons rfl (.cons rfl (.cons rfl (.cons rfl (.cons rfl (.cons rfl (.cons rfl (.cons rfl (.nil _))))))))))))))
                    refine x_then ?_
                    refine wp_seq ?_
                    refine wp_region_lit ?_
                    refine st_val hS rfl rfl (by decide) (r_fld_b rfl fo_36_0 (hS.ev_ rfl)) fun a hS => ?_
                    replace hM := hM.pull 1 rfl rfl
                    refine st_val hS rfl rfl (by decide) (r_ld1_b rfl ag_3 (hS.ev_ rfl) rfl (Rd.of hM)) fun a hS => ?_
                    refine st_val hS rfl rfl (by decide) (r_cmp rfl (hS.ev_ rfl) (hS.ev_ rfl) rfl) fun a hS => ?_
                    refine st_val hS rfl rfl (by decide) (r_move rfl (hS.ev_ rfl)) fun a hS => ?_
                    obtain ⟨x222, h223, h202⟩ := bindO h202
                    refine wl_cut 4 (fun a w => Slots 103 [] a [(2, Value.pointer (some ⟨g11, 0, none⟩)), (3, Value.pointer (some ⟨g13, 0, none⟩)), (4, Value.bool (false)), (5, Value.pointer (some ⟨g37, 0, none⟩)), (6, Value.pointer (some ⟨g41, 0, none⟩)), (7, Value.bool (y176)), (8, strV (([] : List UInt8))), (9, Value.pointer (some ⟨g180, 0, none⟩)), (11, Value.pointer (some ⟨g215, 0, none⟩)), (32, v182), (33, Value.int .i64 (([(⟨x34.1, x34.2.1, x34.2.2.1, x34.2.2.2.1⟩ : R_Event), (⟨x34.2.2.2.2.1, x34.2.2.2.2.2.1, x34.2.2.2.2.2.2.1, x34.2.2.2.2.2.2.2⟩ : R_Event)].length : Int))), (34, Value.int .i64 (x192)), (54, Value.bool (x222))] ∧ Sat w0 w K219 (SP.blk g215 36 [Value.int .i64 (e203.f_Kind), Value.int .i64 (e203.f_N), strV (e203.f_Bytes), v213] :: SP.blk g180 39 [Value.int .i64 (w64 (x193 + ((e203.f_Bytes.length : Int)))), Value.int .i64 (x194), Value.int .i64 (x195)] :: SP.blk g41 36 [Value.int .i64 (x34.2.2.2.2.1), Value.int .i64 (x34.2.2.2.2.2.1), strV (x34.2.2.2.2.2.2.1), v42] :: SP.blk g37 36 [Value.int .i64 (x34.1), Value.int .i64 (x34.2.1), strV (x34.2.2.1), v38] :: SP.blk g11 25 [Value.int .i64 (p1.f_Kind), Value.int .i64 (p1.f_N), v2, v4] :: SP.blk g13 25 [Value.int .i64 (p6.f_Kind), Value.int .i64 (p6.f_N), v7, v9] :: L)) ?_ ?_
                    ·
                      skip
                      rcases ifB h223 with ⟨hc224, h223⟩ | ⟨hc224, h223⟩
                      ·
                        replace hS := hS.known (k := 50) rfl hc224
                        refine st_off hS rfl rfl rfl rfl rfl rfl (by decide) fun a hS => ?_
                        refine st_off hS rfl rfl rfl rfl rfl rfl (by decide) fun a hS => ?_
                        refine st_off hS rfl rfl rfl rfl rfl rfl (by decide) fun a hS => ?_
                        refine st_val hS rfl rfl (by decide) (r_pick_true rfl (hS.ev_ rfl) rfl (hS.ev_ rfl)) fun a hS => ?_
                        refine st_done ?_
                        replace hS : Slots 103 [] a [(54, Value.bool (true)), (11, Value.pointer (some ⟨g215, 0, none⟩)), (34, Value.int .i64 (x192)), (33, Value.int .i64 (([(⟨x34.1, x34.2.1, x34.2.2.1, x34.2.2.2.1⟩ : R_Event), (⟨x34.2.2.2.2.1, x34.2.2.2.2.2.1, x34.2.2.2.2.2.2.1, x34.2.2.2.2.2.2.2⟩ : R_Event)].length : Int))), (32, v182), (9, Value.pointer (some ⟨g180, 0, none⟩)), (8, strV (([] : List UInt8))), (7, Value.bool (y176)), (2, Value.pointer (some ⟨g11, 0, none⟩)), (3, Value.pointer (some ⟨g13, 0, none⟩)), (4, Value.bool (false)), (5, Value.pointer (some ⟨g37, 0, none⟩)), (6, Value.pointer (some ⟨g41, 0, none⟩))] := (hS.part (.cons rfl (.cons rfl (.cons rfl (.cons rfl (.cons rfl (.cons rfl (.cons rfl (.cons rfl (.cons rfl (.cons rfl (.cons rfl (.cons rfl (.cons rfl (.nil _)))))))))))))))
                        refine x_then ?_
                        obtain rfl := Option.some.inj h223
                        exact ⟨(hS.part (.cons rfl (.cons rfl (.cons rfl (.cons rfl (.cons rfl (.cons rfl (.cons rfl (.cons rfl (.cons rfl (.cons rfl (.cons rfl (.cons rfl (.cons rfl (.nil _))))))))))))))), ((((((hM.pull 5 rfl rfl).pull 5 rfl rfl).pull 5 rfl rfl).pull 5 rfl rfl).pull 5 rfl rfl).pull 5 rfl rfl)⟩
                      ·
                        replace hS := hS.known (k := 50) rfl hc224
                        refine st_want hS rfl rfl rfl rfl rfl (by decide) (r_fld_b rfl fo_36_0 (hS.ev_ rfl)) fun a hS => ?_
                        refine st_want hS rfl rfl rfl rfl rfl (by decide) (r_ld1_b rfl ag_3 (hS.ev_ rfl) rfl (Rd.of hM)) fun a hS => ?_
                        refine st_want hS rfl rfl rfl rfl rfl (by decide) (r_cmp rfl (hS.ev_ rfl) (hS.ev_ rfl) rfl) fun a hS => ?_
                        refine st_val hS rfl rfl (by decide) (r_pick_false rfl (hS.ev_ rfl) rfl (hS.ev_ rfl)) fun a hS => ?_
                        refine st_done ?_
                        replace hS : Slots 103 [] a [(54, Value.bool (e203.f_Kind == 3)), (11, Value.pointer (some ⟨g215, 0, none⟩)), (34, Value.int .i64 (x192)), (33, Value.int .i64 (([(⟨x34.1, x34.2.1, x34.2.2.1, x34.2.2.2.1⟩ : R_Event), (⟨x34.2.2.2.2.1, x34.2.2.2.2.2.1, x34.2.2.2.2.2.2.1, x34.2.2.2.2.2.2.2⟩ : R_Event)].length : Int))), (32, v182), (9, Value.pointer (some ⟨g180, 0, none⟩)), (8, strV (([] : List UInt8))), (7, Value.bool (y176)), (2, Value.pointer (some ⟨g11, 0, none⟩)), (3, Value.pointer (some ⟨g13, 0, none⟩)), (4, Value.bool (false)), (5, Value.pointer (some ⟨g37, 0, none⟩)), (6, Value.pointer (some ⟨g41, 0, none⟩))] := (hS.part (.cons rfl (.cons rfl (.cons rfl (.cons rfl (.cons rfl (.cons rfl (.cons rfl (.cons rfl (.cons rfl (.cons rfl (.cons rfl (.cons rfl (.cons rfl (.nil _)))))))))))))))
                        refine x_then ?_
                        obtain rfl := Option.some.inj h223
                        exact ⟨(hS.part (.cons rfl (.cons rfl (.cons rfl (.cons rfl (.cons rfl (.cons rfl (.cons rfl (.cons rfl (.cons rfl (.cons rfl (.cons rfl (.cons rfl (.cons rfl (.nil _))))))))))))))), ((((((hM.pull 5 rfl rfl).pull 5 rfl rfl).pull 5 rfl rfl).pull 5 rfl rfl).pull 5 rfl rfl).pull 5 rfl rfl)⟩
                    · rintro a w ⟨hS, hM⟩
                      refine st_done ?_
                      replace hS : Slots 103 [] a [(2, Value.pointer (some ⟨g11, 0, none⟩)), (3, Value.pointer (some ⟨g13, 0, none⟩)), (4, Value.bool (false)), (5, Value.pointer (some ⟨g37, 0, none⟩)), (6, Value.pointer (some ⟨g41, 0, none⟩)), (7, Value.bool (y176)), (8, strV (([] : List UInt8))), (9, Value.pointer (some ⟨g180, 0, none⟩)), (11, Value.pointer (some ⟨g215, 0, none⟩)), (32, v182), (33, Value.int .i64 (([(⟨x34.1, x34.2.1, x34.2.2.1, x34.2.2.2.1⟩ : R_Event), (⟨x34.2.2.2.2.1, x34.2.2.2.2.2.1, x34.2.2.2.2.2.2.1, x34.2.2.2.2.2.2.2⟩ : R_Event)].length : Int))), (34, Value.int .i64 (x192)), (54, Value.bool (x222))] := (hS.part (.cons rfl (.cons rfl (.cons rfl (.cons rfl (.cons rfl (.cons rfl (.cons rfl (.cons rfl (.cons rfl (.cons rfl (.cons rfl (.cons rfl (.cons rfl (.nil _)))))))))))))))
                      refine x_then ?_
                      rcases ifB h202 with ⟨hc225, h202⟩ | ⟨hc225, h202⟩
                      · refine c_cond_true (hS.ev_ rfl) hc225 ?_
                        refine tk_start #[false, false, false, false, false, false, false, false, false, false] mixed_ rfl rfl ?_
                        replace hM := hM.drew
                        generalize w.drew = w at hM ⊢
                        refine dk_any (i := 0) #[true, false, false, false, false, false, false, false, false, false] hS rfl (by kernel_rfl) rfl rfl (by decide) (fun w => r_fld_b rfl fo_36_0 (hS.ev_ rfl)) fun a hS => ?_
                        refine dk_val (i := 1) (S := Rd w0 K219 [SP.blk g215 36 [Value.int .i64 (e203.f_Kind), Value.int .i64 (e203.f_N), strV (e203.f_Bytes), v213]]) #[true, true, false, false, false, false, false, false, false, false] hS rfl (by kernel_rfl) rfl rfl (by decide) (Rd.of hM.only) (fun w hR => r_ld1_b rfl ag_3 (hS.ev_ rfl) rfl hR) fun a hS => ?_
                        refine dk_any (i := 2) #[true, true, true, false, false, false, false, false, false, false] hS rfl (by kernel_rfl) rfl rfl (by decide) (fun w => r_sub rfl (hS.ev_ rfl) (hS.ev_ rfl)) fun a hS => ?_
                        rcases ifB h202 with ⟨hc226, h202⟩ | ⟨hc226, h202⟩
                        ·
                          replace hS := hS.knownI (k := 57) rfl hc226
                          refine dk_any (i := 3) #[true, true, true, true, false, false, false, false, false, false] hS rfl (by kernel_rfl) rfl rfl (by decide) (fun w => r_idx_ar (i := 0) rfl ar_39 ti_3 (hS.ev_ rfl) (hS.ev_ (v := Value.int .i64 ((0 : Nat) : Int)) rfl) (by decide)) fun a hS => ?_
                          replace hM := hM.pull 1 rfl rfl
                          refine dk_val (i := 4) (S := Rd w0 K219 [SP.blk g180 39 [Value.int .i64 (w64 (x193 + ((e203.f_Bytes.length : Int)))), Value.int .i64 (x194), Value.int .i64 (x195)]]) #[true, true, true, true, true, false, false, false, false, false] hS rfl (by kernel_rfl) rfl rfl (by decide) (Rd.of hM.only) (fun w hR => r_ld1_b rfl ag_3 (hS.ev_ rfl) rfl hR) fun a hS => ?_
                          refine dk_any (i := 5) #[true, true, true, true, true, true, false, false, false, false] hS rfl (by kernel_rfl) rfl rfl (by decide) (fun w => r_fld_b rfl fo_36_1 (hS.ev_ rfl)) fun a hS => ?_
                          replace hM := hM.pull 1 rfl rfl
                          refine dk_val (i := 6) (S := Rd w0 K219 [SP.blk g215 36 [Value.int .i64 (e203.f_Kind), Value.int .i64 (e203.f_N), strV (e203.f_Bytes), v213]]) #[true, true, true, true, true, true, true, false, false, false] hS rfl (by kernel_rfl) rfl rfl (by decide) (Rd.of hM.only) (fun w hR => r_ld1_b rfl ag_3 (hS.ev_ rfl) rfl hR) fun a hS => ?_
                          refine dk_any (i := 7) #[true, true, true, true, true, true, true, true, false, false] hS rfl (by kernel_rfl) rfl rfl (by decide) (fun w => r_add rfl (hS.ev_ rfl) (hS.ev_ rfl)) fun a hS => ?_
                          refine dk_any (i := 8) #[true, true, true, true, true, true, true, true, true, false] hS rfl (by kernel_rfl) rfl rfl (by decide) (fun w => r_idx_ar (i := 0) rfl ar_39 ti_3 (hS.ev_ rfl) (hS.ev_ (v := Value.int .i64 ((0 : Nat) : Int)) rfl) (by decide)) fun a hS => ?_
                          replace hM := hM.pull 1 rfl rfl
                          refine dk_one (i := 9) #[true, true, true, true, true, true, true, true, true, true] rfl (by kernel_rfl) rfl (e_store1 hM rfl ti_3 (hS.ev_ rfl) (hS.ev_ rfl) rfl (Nat.lt_of_lt_of_le (Nat.le_of_ble_eq_true rfl) (Nat.le_refl _)) fun w hM => ?_)
                          have hM : Sat w0 w K219 (SP.blk g180 39 [Value.int .i64 (w64 ((w64 (x193 + ((e203.f_Bytes.length : Int)))) + e203.f_N)), Value.int .i64 (x194), Value.int .i64 (x195)] :: SP.blk g215 36 [Value.int .i64 (e203.f_Kind), Value.int .i64 (e203.f_N), strV (e203.f_Bytes), v213] :: SP.blk g41 36 [Value.int .i64 (x34.2.2.2.2.1), Value.int .i64 (x34.2.2.2.2.2.1), strV (x34.2.2.2.2.2.2.1), v42] :: SP.blk g37 36 [Value.int .i64 (x34.1), Value.int .i64 (x34.2.1), strV (x34.2.2.1), v38] :: SP.blk g11 25 [Value.int .i64 (p1.f_Kind), Value.int .i64 (p1.f_N), v2, v4] :: SP.blk g13 25 [Value.int .i64 (p6.f_Kind), Value.int .i64 (p6.f_N), v7, v9] :: L) := hM
                          refine pT0 hS rfl (Dem.wait (by kernel_rfl) (Dem.wait (by kernel_rfl) (Dem.wait (by kernel_rfl) Dem.nil))) fun a hS => ?_
                          refine tk_done (by kernel_rfl) ?_
                          replace hS : Slots 103 [] a [(2, Value.pointer (some ⟨g11, 0, none⟩)), (3, Value.pointer (some ⟨g13, 0, none⟩)), (4, Value.bool (false)), (5, Value.pointer (some ⟨g37, 0, none⟩)), (6, Value.pointer (some ⟨g41, 0, none⟩)), (7, Value.bool (y176)), (8, strV (([] : List UInt8))), (9, Value.pointer (some ⟨g180, 0, none⟩)), (32, v182), (33, Value.int .i64 (([(⟨x34.1, x34.2.1, x34.2.2.1, x34.2.2.2.1⟩ : R_Event), (⟨x34.2.2.2.2.1, x34.2.2.2.2.2.1, x34.2.2.2.2.2.2.1, x34.2.2.2.2.2.2.2⟩ : R_Event)].length : Int))), (34, Value.int .i64 (x192))] := (hS.part (.cons rfl (.cons rfl (.cons rfl (.cons rfl (.cons rfl (.cons rfl (.cons rfl (.cons rfl (.cons rfl (.cons rfl (.cons rfl (.nil _)))))))))))))
                          refine x_block ?_
                          refine x_then ?_
                          obtain rfl := Option.some.inj h202
                          exact ⟨K219, hlK219, (hS.part (.cons rfl (.cons rfl (.cons rfl (.cons rfl (.cons rfl (.cons rfl (.cons rfl (.cons rfl (.cons rfl (.cons rfl (.cons rfl (.nil _))))))))))))), ((((((hM.pull 1 rfl rfl).tail.pull 4 rfl rfl).pull 4 rfl rfl).pull 2 rfl rfl).pull 4 rfl rfl).pull 4 rfl rfl)⟩
                        rcases ifB h202 with ⟨hc227, h202⟩ | ⟨hc227, h202⟩
                        ·
                          replace hS := hS.knownI (k := 57) rfl hc227
                          refine dk_any (i := 3) #[true, true, true, true, false, false, false, false, false, false] hS rfl (by kernel_rfl) rfl rfl (by decide) (fun w => r_idx_ar (i := 1) rfl ar_39 ti_3 (hS.ev_ rfl) (hS.ev_ (v := Value.int .i64 ((1 : Nat) : Int)) rfl) (by decide)) fun a hS => ?_
                          replace hM := hM.pull 1 rfl rfl
                          refine dk_val (i := 4) (S := Rd w0 K219 [SP.blk g180 39 [Value.int .i64 (w64 (x193 + ((e203.f_Bytes.length : Int)))), Value.int .i64 (x194), Value.int .i64 (x195)]]) #[true, true, true, true, true, false, false, false, false, false] hS rfl (by kernel_rfl) rfl rfl (by decide) (Rd.of hM.only) (fun w hR => r_ld1_b rfl ag_3 (hS.ev_ rfl) rfl hR) fun a hS => ?_
                          refine dk_any (i := 5) #[true, true, true, true, true, true, false, false, false, false] hS rfl (by kernel_rfl) rfl rfl (by decide) (fun w => r_fld_b rfl fo_36_1 (hS.ev_ rfl)) fun a hS => ?_
                          replace hM := hM.pull 1 rfl rfl
                          refine dk_val (i := 6) (S := Rd w0 K219 [SP.blk g215 36 [Value.int .i64 (e203.f_Kind), Value.int .i64 (e203.f_N), strV (e203.f_Bytes), v213]]) #[true, true, true, true, true, true, true, false, false, false] hS rfl (by kernel_rfl) rfl rfl (by decide) (Rd.of hM.only) (fun w hR => r_ld1_b rfl ag_3 (hS.ev_ rfl) rfl hR) fun a hS => ?_
                          refine dk_any (i := 7) #[true, true, true, true, true, true, true, true, false, false] hS rfl (by kernel_rfl) rfl rfl (by decide) (fun w => r_add rfl (hS.ev_ rfl) (hS.ev_ rfl)) fun a hS => ?_
                          refine dk_any (i := 8) #[true, true, true, true, true, true, true, true, true, false] hS rfl (by kernel_rfl) rfl rfl (by decide) (fun w => r_idx_ar (i := 1) rfl ar_39 ti_3 (hS.ev_ rfl) (hS.ev_ (v := Value.int .i64 ((1 : Nat) : Int)) rfl) (by decide)) fun a hS => ?_
                          replace hM := hM.pull 1 rfl rfl
                          refine dk_one (i := 9) #[true, true, true, true, true, true, true, true, true, true] rfl (by kernel_rfl) rfl (e_store1 hM rfl ti_3 (hS.ev_ rfl) (hS.ev_ rfl) rfl (Nat.lt_of_lt_of_le (Nat.le_of_ble_eq_true rfl) (Nat.le_refl _)) fun w hM => ?_)
                          have hM : Sat w0 w K219 (SP.blk g180 39 [Value.int .i64 (w64 (x193 + ((e203.f_Bytes.length : Int)))), Value.int .i64 (w64 (x194 + e203.f_N)), Value.int .i64 (x195)] :: SP.blk g215 36 [Value.int .i64 (e203.f_Kind), Value.int .i64 (e203.f_N), strV (e203.f_Bytes), v213] :: SP.blk g41 36 [Value.int .i64 (x34.2.2.2.2.1), Value.int .i64 (x34.2.2.2.2.2.1), strV (x34.2.2.2.2.2.2.1), v42] :: SP.blk g37 36 [Value.int .i64 (x34.1), Value.int .i64 (x34.2.1), strV (x34.2.2.1), v38] :: SP.blk g11 25 [Value.int .i64 (p1.f_Kind), Value.int .i64 (p1.f_N), v2, v4] :: SP.blk g13 25 [Value.int .i64 (p6.f_Kind), Value.int .i64 (p6.f_N), v7, v9] :: L) := hM
                          refine pT0 hS rfl (Dem.wait (by kernel_rfl) (Dem.wait (by kernel_rfl) (Dem.wait (by kernel_rfl) Dem.nil))) fun a hS => ?_
                          refine tk_done (by kernel_rfl) ?_
                          replace hS : Slots 103 [] a [(2, Value.pointer (some ⟨g11, 0, none⟩)), (3, Value.pointer (some ⟨g13, 0, none⟩)), (4, Value.bool (false)), (5, Value.pointer (some ⟨g37, 0, none⟩)), (6, Value.pointer (some ⟨g41, 0, none⟩)), (7, Value.bool (y176)), (8, strV (([] : List UInt8))), (9, Value.pointer (some ⟨g180, 0, none⟩)), (32, v182), (33, Value.int .i64 (([(⟨x34.1, x34.2.1, x34.2.2.1, x34.2.2.2.1⟩ : R_Event), (⟨x34.2.2.2.2.1, x34.2.2.2.2.2.1, x34.2.2.2.2.2.2.1, x34.2.2.2.2.2.2.2⟩ : R_Event)].length : Int))), (34, Value.int .i64 (x192))] := (hS.part (.cons rfl (.cons rfl (.cons rfl (.cons rfl (.cons rfl (.cons rfl (.cons rfl (.cons rfl (.cons rfl (.cons rfl (.cons rfl (.nil _)))))))))))))
                          refine x_block ?_
                          refine x_then ?_
                          obtain rfl := Option.some.inj h202
                          exact ⟨K219, hlK219, (hS.part (.cons rfl (.cons rfl (.cons rfl (.cons rfl (.cons rfl (.cons rfl (.cons rfl (.cons rfl (.cons rfl (.cons rfl (.cons rfl (.nil _))))))))))))), ((((((hM.pull 1 rfl rfl).tail.pull 4 rfl rfl).pull 4 rfl rfl).pull 2 rfl rfl).pull 4 rfl rfl).pull 4 rfl rfl)⟩
                        rcases ifB h202 with ⟨hc228, h202⟩ | ⟨hc228, h202⟩
                        ·
                          replace hS := hS.knownI (k := 57) rfl hc228
                          refine dk_any (i := 3) #[true, true, true, true, false, false, false, false, false, false] hS rfl (by kernel_rfl) rfl rfl (by decide) (fun w => r_idx_ar (i := 2) rfl ar_39 ti_3 (hS.ev_ rfl) (hS.ev_ (v := Value.int .i64 ((2 : Nat) : Int)) rfl) (by decide)) fun a hS => ?_
                          replace hM := hM.pull 1 rfl rfl
                          refine dk_val (i := 4) (S := Rd w0 K219 [SP.blk g180 39 [Value.int .i64 (w64 (x193 + ((e203.f_Bytes.length : Int)))), Value.int .i64 (x194), Value.int .i64 (x195)]]) #[true, true, true, true, true, false, false, false, false, false] hS rfl (by kernel_rfl) rfl rfl (by decide) (Rd.of hM.only) (fun w hR => r_ld1_b rfl ag_3 (hS.ev_ rfl) rfl hR) fun a hS => ?_
                          refine dk_any (i := 5) #[true, true, true, true, true, true, false, false, false, false] hS rfl (by kernel_rfl) rfl rfl (by decide) (fun w => r_fld_b rfl fo_36_1 (hS.ev_ rfl)) fun a hS => ?_
                          replace hM := hM.pull 1 rfl rfl
                          refine dk_val (i := 6) (S := Rd w0 K219 [SP.blk g215 36 [Value.int .i64 (e203.f_Kind), Value.int .i64 (e203.f_N), strV (e203.f_Bytes), v213]]) #[true, true, true, true, true, true, true, false, false, false] hS rfl (by kernel_rfl) rfl rfl (by decide) (Rd.of hM.only) (fun w hR => r_ld1_b rfl ag_3 (hS.ev_ rfl) rfl hR) fun a hS => ?_
                          refine dk_any (i := 7) #[true, true, true, true, true, true, true, true, false, false] hS rfl (by kernel_rfl) rfl rfl (by decide) (fun w => r_add rfl (hS.ev_ rfl) (hS.ev_ rfl)) fun a hS => ?_
                          refine dk_any (i := 8) #[true, true, true, true, true, true, true, true, true, false] hS rfl (by kernel_rfl) rfl rfl (by decide) (fun w => r_idx_ar (i := 2) rfl ar_39 ti_3 (hS.ev_ rfl) (hS.ev_ (v := Value.int .i64 ((2 : Nat) : Int)) rfl) (by decide)) fun a hS => ?_
                          replace hM := hM.pull 1 rfl rfl
                          refine dk_one (i := 9) #[true, true, true, true, true, true, true, true, true, true] rfl (by kernel_rfl) rfl (e_store1 hM rfl ti_3 (hS.ev_ rfl) (hS.ev_ rfl) rfl (Nat.lt_of_lt_of_le (Nat.le_of_ble_eq_true rfl) (Nat.le_refl _)) fun w hM => ?_)
                          have hM : Sat w0 w K219 (SP.blk g180 39 [Value.int .i64 (w64 (x193 + ((e203.f_Bytes.length : Int)))), Value.int .i64 (x194), Value.int .i64 (w64 (x195 + e203.f_N))] :: SP.blk g215 36 [Value.int .i64 (e203.f_Kind), Value.int .i64 (e203.f_N), strV (e203.f_Bytes), v213] :: SP.blk g41 36 [Value.int .i64 (x34.2.2.2.2.1), Value.int .i64 (x34.2.2.2.2.2.1), strV (x34.2.2.2.2.2.2.1), v42] :: SP.blk g37 36 [Value.int .i64 (x34.1), Value.int .i64 (x34.2.1), strV (x34.2.2.1), v38] :: SP.blk g11 25 [Value.int .i64 (p1.f_Kind), Value.int .i64 (p1.f_N), v2, v4] :: SP.blk g13 25 [Value.int .i64 (p6.f_Kind), Value.int .i64 (p6.f_N), v7, v9] :: L) := hM
                          refine pT0 hS rfl (Dem.wait (by kernel_rfl) (Dem.wait (by kernel_rfl) (Dem.wait (by kernel_rfl) Dem.nil))) fun a hS => ?_
                          refine tk_done (by kernel_rfl) ?_
                          replace hS : Slots 103 [] a [(2, Value.pointer (some ⟨g11, 0, none⟩)), (3, Value.pointer (some ⟨g13, 0, none⟩)), (4, Value.bool (false)), (5, Value.pointer (some ⟨g37, 0, none⟩)), (6, Value.pointer (some ⟨g41, 0, none⟩)), (7, Value.bool (y176)), (8, strV (([] : List UInt8))), (9, Value.pointer (some ⟨g180, 0, none⟩)), (32, v182), (33, Value.int .i64 (([(⟨x34.1, x34.2.1, x34.2.2.1, x34.2.2.2.1⟩ : R_Event), (⟨x34.2.2.2.2.1, x34.2.2.2.2.2.1, x34.2.2.2.2.2.2.1, x34.2.2.2.2.2.2.2⟩ : R_Event)].length : Int))), (34, Value.int .i64 (x192))] := (hS.part (.cons rfl (.cons rfl (.cons rfl (.cons rfl (.cons rfl (.cons rfl (.cons rfl (.cons rfl (.cons rfl (.cons rfl (.cons rfl (.nil _)))))))))))))
                          refine x_block ?_
                          refine x_then ?_
                          obtain rfl := Option.some.inj h202
                          exact ⟨K219, hlK219, (hS.part (.cons rfl (.cons rfl (.cons rfl (.cons rfl (.cons rfl (.cons rfl (.cons rfl (.cons rfl (.cons rfl (.cons rfl (.cons rfl (.nil _))))))))))))), ((((((hM.pull 1 rfl rfl).tail.pull 4 rfl rfl).pull 4 rfl rfl).pull 2 rfl rfl).pull 4 rfl rfl).pull 4 rfl rfl)⟩
                        cases h202
                      · refine c_cond_false (hS.ev_ rfl) hc225 ?_
                        refine wp_skip ?_
                        refine x_block ?_
                        refine x_then ?_
                        obtain rfl := Option.some.inj h202
                        exact ⟨K219, hlK219, (hS.part (.cons rfl (.cons rfl (.cons rfl (.cons rfl (.cons rfl (.cons rfl (.cons rfl (.cons rfl (.cons rfl (.cons rfl (.cons rfl (.nil _))))))))))))), ((((((hM).tail.pull 4 rfl rfl).pull 4 rfl rfl).pull 2 rfl rfl).pull 4 rfl rfl).pull 4 rfl rfl)⟩
                  · refine c_cond_false (hS.ev_ rfl) hc221 ?_
                    refine wp_skip ?_
                    refine x_block ?_
                    refine x_then ?_
                    obtain rfl := Option.some.inj h202
                    exact ⟨K219, hlK219, (hS.part (.cons rfl (.cons rfl (.cons rfl (.cons rfl (.cons rfl (.cons rfl (.cons rfl (.cons rfl (.cons rfl (.cons rfl (.cons rfl (.nil _))))))))))))), ((((((hM).tail.pull 4 rfl rfl).pull 4 rfl rfl).pull 4 rfl rfl).pull 4 rfl rfl).pull 4 rfl rfl)⟩
                · rintro a w ⟨K200, hlK200, hS, hM⟩
                  refine wp_region_lit ?_
                  refine st_val hS rfl rfl (by decide) (r_add rfl (hS.ev_ rfl) (hS.ev_ rfl)) fun a hS => ?_
                  refine st_val hS rfl rfl (by decide) (r_move rfl (hS.ev_ rfl)) fun a hS => ?_
                  refine st_done ?_
                  replace hS : Slots 103 [] a [(34, Value.int .i64 (w64 (x192 + 1))), (2, Value.pointer (some ⟨g11, 0, none⟩)), (3, Value.pointer (some ⟨g13, 0, none⟩)), (4, Value.bool (false)), (5, Value.pointer (some ⟨g37, 0, none⟩)), (6, Value.pointer (some ⟨g41, 0, none⟩)), (7, Value.bool (y176)), (8, strV (([] : List UInt8))), (9, Value.pointer (some ⟨g180, 0, none⟩)), (32, v182), (33, Value.int .i64 (([(⟨x34.1, x34.2.1, x34.2.2.1, x34.2.2.2.1⟩ : R_Event), (⟨x34.2.2.2.2.1, x34.2.2.2.2.2.1, x34.2.2.2.2.2.2.1, x34.2.2.2.2.2.2.2⟩ : R_Event)].length : Int)))] := (hS.part (.cons rfl (.cons rfl (.cons rfl (.cons rfl (.cons rfl (.cons rfl (.cons rfl (.cons rfl (.cons rfl (.cons rfl (.cons rfl (.nil _)))))))))))))
                  refine x_then ?_
                  exact ih (w64 (x192 + 1)) x201.1 x201.2.1 x201.2.2 _ h hr K200 _ _ (hlK191.trans hlK200) (hS.part (.cons rfl (.cons rfl (.cons rfl (.cons rfl (.cons rfl (.cons rfl (.cons rfl (.cons rfl (.cons rfl (.cons rfl (.cons rfl (.nil _))))))))))))) ((((((hM.pull 4 rfl rfl).pull 4 rfl rfl).pull 4 rfl rfl).pull 4 rfl rfl).pull 4 rfl rfl))
              · refine c_cond_false (hS.ev_ rfl) hc199 ?_
                refine wp_exit ?_
                refine x_then_exit ?_
                refine x_then_exit ?_
                have ho' := (Option.some.inj h).trans hr
                refine hQ _ _ _ ?_
                subst ho'
                exact ⟨rfl, K191, hlK191, (hS.part (.cons rfl (.cons rfl (.cons rfl (.cons rfl (.cons rfl (.cons rfl (.cons rfl (.cons rfl (.nil _)))))))))), (((((hM.pull 4 rfl rfl).pull 4 rfl rfl).pull 4 rfl rfl).pull 4 rfl rfl).pull 4 rfl rfl)⟩
            exact key 0 0 0 0 _ h197 rfl K183 _ _ (Hp.le.refl _) (hS.part (.cons rfl (.cons rfl (.cons rfl (.cons rfl (.cons rfl (.cons rfl (.cons rfl (.cons rfl (.cons rfl (.cons rfl (.cons rfl (.nil _))))))))))))) ((((((hM.pull 4 rfl rfl).pull 4 rfl rfl).pull 4 rfl rfl).pull 4 rfl rfl).pull 4 rfl rfl))
          · rintro e a w ⟨rfl, K198, hlK198, hS, hM⟩
            refine x_block_here ?_
            refine x_then ?_
            obtain ⟨x230, h231, h⟩ := bindO h
            refine c_cut (fun a w => ∃ (K229 : Hp), Hp.le K198 K229 ∧ Slots 103 [] a [(2, Value.pointer (some ⟨g11, 0, none⟩)), (3, Value.pointer (some ⟨g13, 0, none⟩)), (4, Value.bool (false)), (5, Value.pointer (some ⟨g37, 0, none⟩)), (6, Value.pointer (some ⟨g41, 0, none⟩)), (7, Value.bool (y176)), (9, Value.pointer (some ⟨g180, 0, none⟩)), (8, strV (x230))] ∧ Sat w0 w K229 (SP.blk g41 36 [Value.int .i64 (x34.2.2.2.2.1), Value.int .i64 (x34.2.2.2.2.2.1), strV (x34.2.2.2.2.2.2.1), v42] :: SP.blk g37 36 [Value.int .i64 (x34.1), Value.int .i64 (x34.2.1), strV (x34.2.2.1), v38] :: SP.blk g180 39 [Value.int .i64 (o196.1), Value.int .i64 (o196.2.1), Value.int .i64 (o196.2.2)] :: SP.blk g11 25 [Value.int .i64 (p1.f_Kind), Value.int .i64 (p1.f_N), v2, v4] :: SP.blk g13 25 [Value.int .i64 (p6.f_Kind), Value.int .i64 (p6.f_N), v7, v9] :: L)) ?_ ?_
            ·
              refine wp_seq ?_
              refine wp_region_lit ?_
              refine st_val hS rfl rfl (by decide) (r_move rfl (hS.ev_ rfl)) fun a hS => ?_
              refine st_done ?_
              replace hS : Slots 103 [] a [(65, Value.bool (y176)), (2, Value.pointer (some ⟨g11, 0, none⟩)), (3, Value.pointer (some ⟨g13, 0, none⟩)), (4, Value.bool (false)), (5, Value.pointer (some ⟨g37, 0, none⟩)), (6, Value.pointer (some ⟨g41, 0, none⟩)), (7, Value.bool (y176)), (8, strV (([] : List UInt8))), (9, Value.pointer (some ⟨g180, 0, none⟩))] := (hS.part (.cons rfl (.cons rfl (.cons rfl (.cons rfl (.cons rfl (.cons rfl (.cons rfl (.cons rfl (.cons rfl (.nil _)))))))))))
              refine x_then ?_
              rcases ifB h231 with ⟨hc232, h231⟩ | ⟨hc232, h231⟩
              · refine c_cond_true (hS.ev_ rfl) hc232 ?_
                refine wp_region_lit ?_
                replace hM := hM.pull 1 rfl rfl
                refine st_val hS rfl rfl (by decide) (r_ldN_b (cs' := [Value.int .i64 (x34.1), Value.int .i64 (x34.2.1), strV (x34.2.2.1), v38]) rfl ag_36 ti_36 (hS.ev_ rfl) rfl (Rd.of hM)) fun a hS => ?_
                obtain ⟨y233, h234, h231⟩ := bindO h231
                have hc236 := R_Line_c hG h234 (Kd.sl_mono ((hlK178.trans hlK183).trans hlK198) f39) hM
                refine wl_cons rfl (e_call rfl Tryd.func15 rfl rfl (args1 (hS.ev_ rfl)) hc236 ?_)
                rintro _ w ⟨K235, hlK235, hM, rfl⟩
                refine ⟨_, rfl, ?_⟩
                refine pl hS rfl (by decide) fun a hS => ?_
                refine st_val hS rfl rfl (by decide) (r_assign rfl (hS.ev_ rfl)) fun a hS => ?_
                refine st_done ?_
                replace hS : Slots 103 [] a [(8, strV (y233)), (2, Value.pointer (some ⟨g11, 0, none⟩)), (3, Value.pointer (some ⟨g13, 0, none⟩)), (4, Value.bool (false)), (5, Value.pointer (some ⟨g37, 0, none⟩)), (6, Value.pointer (some ⟨g41, 0, none⟩)), (7, Value.bool (y176)), (9, Value.pointer (some ⟨g180, 0, none⟩))] := (hS.part (.cons rfl (.cons rfl (.cons rfl (.cons rfl (.cons rfl (.cons rfl (.cons rfl (.cons rfl (.nil _))))))))))
                refine x_then ?_
                obtain rfl := Option.some.inj h231
                exact ⟨K235, hlK235, (hS.part (.cons rfl (.cons rfl (.cons rfl (.cons rfl (.cons rfl (.cons rfl (.cons rfl (.cons rfl (.nil _)))))))))), (((((hM.pull 4 rfl rfl).pull 4 rfl rfl).pull 4 rfl rfl).pull 3 rfl rfl).pull 4 rfl rfl)⟩
              · refine c_cond_false (hS.ev_ rfl) hc232 ?_
                refine wp_skip ?_
                refine x_then ?_
                obtain rfl := Option.some.inj h231
                exact ⟨K198, (Hp.le.refl _), (hS.part (.cons rfl (.cons rfl (.cons rfl (.cons rfl (.cons rfl (.cons rfl (.cons rfl (.cons rfl (.nil _)))))))))), (((((hM.pull 4 rfl rfl).pull 4 rfl rfl).pull 4 rfl rfl).pull 4 rfl rfl).pull 4 rfl rfl)⟩
            · rintro a w ⟨K229, hlK229, hS, hM⟩
              refine wp_seq ?_
              refine wp_region_lit ?_
              replace hM := hM.pull 3 rfl rfl
              refine st_val hS rfl rfl (by decide) (r_ldN_b (cs' := [Value.int .i64 (p1.f_Kind), Value.int .i64 (p1.f_N), v2, v4]) rfl ag_25 ti_25 (hS.ev_ rfl) rfl (Rd.of hM)) fun a hS => ?_
              replace hM := hM.pull 4 rfl rfl
              refine st_val hS rfl rfl (by decide) (r_ldN_b (cs' := [Value.int .i64 (p6.f_Kind), Value.int .i64 (p6.f_N), v7, v9]) rfl ag_25 ti_25 (hS.ev_ rfl) rfl (Rd.of hM)) fun a hS => ?_
              refine wl_cons rfl (e_litK (d := kraw_Event) (e := 25) (cs := [Value.int .i64 (p1.f_Kind), Value.int .i64 (p1.f_N), v2, v4, Value.int .i64 (p6.f_Kind), Value.int .i64 (p6.f_N), v7, v9]) (xs := [p1, p6]) hM rfl (parts_ev hS rfl) (by obtain ⟨_, _, hvv, _⟩ := sl_val f3; rw [hvv]; clear hvv; obtain ⟨_, _, hvv, _⟩ := sl_val f5; rw [hvv]; clear hvv; obtain ⟨_, _, hvv, _⟩ := sl_val f8; rw [hvv]; clear hvv; obtain ⟨_, _, hvv, _⟩ := sl_val f10; rw [hvv]; clear hvv; kernel_rfl) ⟨[Value.int .i64 (p1.f_Kind), Value.int .i64 (p1.f_N), v2, v4], [Value.int .i64 (p6.f_Kind), Value.int .i64 (p6.f_N), v7, v9], rfl, (kraw_Event_shut (Kd.sl_mono (((((((hlK17.trans hlK22).trans hlK24).trans hlK33).trans hlK178).trans hlK183).trans hlK198).trans hlK229) f3) (Kd.sl_mono (((((((hlK17.trans hlK22).trans hlK24).trans hlK33).trans hlK178).trans hlK183).trans hlK198).trans hlK229) f5)), ⟨[Value.int .i64 (p6.f_Kind), Value.int .i64 (p6.f_N), v7, v9], [], rfl, (kraw_Event_shut (Kd.sl_mono (((((((hlK17.trans hlK22).trans hlK24).trans hlK33).trans hlK178).trans hlK183).trans hlK198).trans hlK229) f8) (Kd.sl_mono (((((((hlK17.trans hlK22).trans hlK24).trans hlK33).trans hlK178).trans hlK183).trans hlK198).trans hlK229) f10)), rfl⟩⟩ rfl (by decide) fun v237 K238 w hlK238 hM f239 => ?_)
              refine pl hS rfl (by decide) fun a hS => ?_
              obtain ⟨y240, h241, h⟩ := bindO h
              have hc243 := raw_Sum_c hG h241 f239 hM
              refine wl_cons rfl (e_call rfl Tryd.func16 rfl rfl (args1 (hS.ev_ rfl)) hc243 ?_)
              rintro _ w ⟨K242, hlK242, hM, rfl⟩
              refine ⟨_, rfl, ?_⟩
              refine pl hS rfl (by decide) fun a hS => ?_
              refine st_val hS rfl rfl (by decide) (r_move rfl (hS.ev_ rfl)) fun a hS => ?_
              refine st_val hS rfl rfl (by decide) (r_extract rfl (hS.ev_ rfl) rfl) fun a hS => ?_
              refine st_val hS rfl rfl (by decide) (r_extract rfl (hS.ev_ rfl) rfl) fun a hS => ?_
              refine st_val hS rfl rfl (by decide) (r_extract rfl (hS.ev_ rfl) rfl) fun a hS => ?_
              refine st_val hS rfl rfl (by decide) (r_assign rfl (hS.ev_ rfl)) fun a hS => ?_
              refine st_val hS rfl rfl (by decide) (r_assign rfl (hS.ev_ rfl)) fun a hS => ?_
              refine st_val hS rfl rfl (by decide) (r_assign rfl (hS.ev_ rfl)) fun a hS => ?_
              refine st_done ?_
              replace hS : Slots 103 [] a [(14, Value.int .i64 (y240.2.2)), (13, Value.int .i64 (y240.2.1)), (12, Value.int .i64 (y240.1)), (2, Value.pointer (some ⟨g11, 0, none⟩)), (3, Value.pointer (some ⟨g13, 0, none⟩)), (4, Value.bool (false)), (5, Value.pointer (some ⟨g37, 0, none⟩)), (6, Value.pointer (some ⟨g41, 0, none⟩)), (7, Value.bool (y176)), (9, Value.pointer (some ⟨g180, 0, none⟩)), (8, strV (x230))] := (hS.part (.cons rfl (.cons rfl (.cons rfl (.cons rfl (.cons rfl (.cons rfl (.cons rfl (.cons rfl (.cons rfl (.cons rfl (.cons rfl (.nil _)))))))))))))
              refine x_then ?_
              obtain ⟨x245, h246, h⟩ := bindO h
              refine c_cut (fun a w => ∃ (K244 : Hp), Hp.le K242 K244 ∧ Slots 103 [] a [(4, Value.bool (x245))] ∧ Sat w0 w K244 (SP.blk g13 25 [Value.int .i64 (p6.f_Kind), Value.int .i64 (p6.f_N), v7, v9] :: SP.blk g11 25 [Value.int .i64 (p1.f_Kind), Value.int .i64 (p1.f_N), v2, v4] :: SP.blk g41 36 [Value.int .i64 (x34.2.2.2.2.1), Value.int .i64 (x34.2.2.2.2.2.1), strV (x34.2.2.2.2.2.2.1), v42] :: SP.blk g37 36 [Value.int .i64 (x34.1), Value.int .i64 (x34.2.1), strV (x34.2.2.1), v38] :: SP.blk g180 39 [Value.int .i64 (o196.1), Value.int .i64 (o196.2.1), Value.int .i64 (o196.2.2)] :: L)) ?_ ?_
              ·
                refine tk_start #[false, false, false, false, false, false, false, false, false, false, false, false, false, false, false, false, false, false, false, false, false, false, false, false, false, false, false, false] mixed_ rfl rfl ?_
                replace hM := hM.drew
                generalize w.drew = w at hM ⊢
                replace hM := hM.pull 1 rfl rfl
                refine dk_val (i := 0) (S := Rd w0 K242 [SP.blk g11 25 [Value.int .i64 (p1.f_Kind), Value.int .i64 (p1.f_N), v2, v4]]) #[true, false, false, false, false, false, false, false, false, false, false, false, false, false, false, false, false, false, false, false, false, false, false, false, false, false, false, false] hS rfl (by kernel_rfl) rfl rfl (by decide) (Rd.of hM.only) (fun w hR => r_ldN_b (cs' := [Value.int .i64 (p1.f_Kind), Value.int .i64 (p1.f_N), v2, v4]) rfl ag_25 ti_25 (hS.ev_ rfl) rfl hR) fun a hS => ?_
                refine dk_any (i := 2) #[true, false, true, false, false, false, false, false, false, false, false, false, false, false, false, false, false, false, false, false, false, false, false, false, false, false, false, false] hS rfl (by kernel_rfl) rfl rfl (by decide) (fun w => r_move rfl (hS.ev_ rfl)) fun a hS => ?_
                obtain ⟨y247, h248, h246⟩ := bindO h246
                have hc250 := raw_Right_c hG h248 (Kd.sl_mono (((((((((hlK17.trans hlK22).trans hlK24).trans hlK33).trans hlK178).trans hlK183).trans hlK198).trans hlK229).trans hlK238).trans hlK242) f3) (Kd.sl_mono (((((((((hlK17.trans hlK22).trans hlK24).trans hlK33).trans hlK178).trans hlK183).trans hlK198).trans hlK229).trans hlK238).trans hlK242) f5) hM
                refine dk_one (i := 1) #[true, true, true, false, false, false, false, false, false, false, false, false, false, false, false, false, false, false, false, false, false, false, false, false, false, false, false, false] rfl (by kernel_rfl) rfl (e_call rfl Tryd.func10 rfl rfl (args1 (hS.ev_ rfl)) hc250 ?_)
                rintro _ w ⟨K249, hlK249, hM, rfl⟩
                refine ⟨_, rfl, ?_⟩
                refine pT hS rfl (by decide) (Dem.wait (by kernel_rfl) Dem.nil) fun a hS => ?_
                refine dk_any (i := 3) #[true, true, true, true, false, false, false, false, false, false, false, false, false, false, false, false, false, false, false, false, false, false, false, false, false, false, false, false] hS rfl (by kernel_rfl) rfl rfl (by decide) (fun w => r_beq rfl un_4 (hS.ev_ rfl) (hS.ev_ rfl)) fun a hS => ?_
                refine dk_any (i := 4) #[true, true, true, true, true, false, false, false, false, false, false, false, false, false, false, false, false, false, false, false, false, false, false, false, false, false, false, false] hS rfl (by kernel_rfl) rfl rfl (by decide) (fun w => r_move rfl (hS.ev_ rfl)) fun a hS => ?_
                rcases ifB h246 with ⟨hc251, h246⟩ | ⟨hc251, h246⟩
                ·
                  replace hS := hS.known (k := 80) rfl hc251
                  refine dk_want (i := 5) (S := Rd w0 K249 [SP.blk g11 25 [Value.int .i64 (p1.f_Kind), Value.int .i64 (p1.f_N), v2, v4]]) #[true, true, true, true, true, true, false, false, false, false, false, false, false, false, false, false, false, false, false, false, false, false, false, false, false, false, false, false] hS rfl (by kernel_rfl) rfl rfl rfl rfl rfl (by decide) (Rd.of hM.only) (fun w hR => r_ldN_b (cs' := [Value.int .i64 (p1.f_Kind), Value.int .i64 (p1.f_N), v2, v4]) rfl ag_25 ti_25 (hS.ev_ rfl) rfl hR) fun a hS => ?_
                  refine dk_want (i := 7) (S := Rd w0 K249 []) #[true, true, true, true, true, true, false, true, false, false, false, false, false, false, false, false, false, false, false, false, false, false, false, false, false, false, false, false] hS rfl (by kernel_rfl) rfl rfl rfl rfl rfl (by decide) (Rd.of hM.nil_) (fun w hR => r_move rfl (hS.ev_ rfl)) fun a hS => ?_
                  obtain ⟨y252, h253, h246⟩ := bindO h246
                  have hc255 := raw_Line_c hG h253 (Kd.sl_mono ((((((((((hlK17.trans hlK22).trans hlK24).trans hlK33).trans hlK178).trans hlK183).trans hlK198).trans hlK229).trans hlK238).trans hlK242).trans hlK249) f3) (Kd.sl_mono ((((((((((hlK17.trans hlK22).trans hlK24).trans hlK33).trans hlK178).trans hlK183).trans hlK198).trans hlK229).trans hlK238).trans hlK242).trans hlK249) f5) hM
                  refine dk_onew (i := 6) #[true, true, true, true, true, true, true, true, false, false, false, false, false, false, false, false, false, false, false, false, false, false, false, false, false, false, false, false] hS rfl (by kernel_rfl) rfl rfl rfl rfl (e_call rfl Tryd.func11 rfl rfl (args1 (hS.ev_ rfl)) hc255 ?_)
                  rintro _ w ⟨K254, hlK254, hM, rfl⟩
                  refine ⟨_, rfl, ?_⟩
                  refine pT hS rfl (by decide) (Dem.keep (fun _ => Rd.up hlK254 hM.nil_) (Dem.wait (by kernel_rfl) (Dem.wait (by kernel_rfl) Dem.nil))) fun a hS => ?_
                  refine dk_want (i := 8) (S := Rd w0 K254 []) #[true, true, true, true, true, true, true, true, true, false, false, false, false, false, false, false, false, false, false, false, false, false, false, false, false, false, false, false] hS rfl (by kernel_rfl) rfl rfl rfl rfl rfl (by decide) (Rd.of hM.nil_) (fun w hR => r_seq rfl (hS.ev_ rfl) (hS.ev_ rfl)) fun a hS => ?_
                  refine dk_any (i := 9) #[true, true, true, true, true, true, true, true, true, true, false, false, false, false, false, false, false, false, false, false, false, false, false, false, false, false, false, false] hS rfl (by kernel_rfl) rfl rfl (by decide) (fun w => r_pick_true rfl (hS.ev_ rfl) rfl (hS.ev_ rfl)) fun a hS => ?_
                  refine dk_any (i := 10) #[true, true, true, true, true, true, true, true, true, true, true, false, false, false, false, false, false, false, false, false, false, false, false, false, false, false, false, false] hS rfl (by kernel_rfl) rfl rfl (by decide) (fun w => r_move rfl (hS.ev_ rfl)) fun a hS => ?_
                  rcases ifB h246 with ⟨hc256, h246⟩ | ⟨hc256, h246⟩
                  ·
                    replace hS := hS.known (k := 86) rfl hc256
                    refine dk_want (i := 11) (S := Rd w0 K254 [SP.blk g11 25 [Value.int .i64 (p1.f_Kind), Value.int .i64 (p1.f_N), v2, v4]]) #[true, true, true, true, true, true, true, true, true, true, true, true, false, false, false, false, false, false, false, false, false, false, false, false, false, false, false, false] hS rfl (by kernel_rfl) rfl rfl rfl rfl rfl (by decide) (Rd.of hM.only) (fun w hR => r_ldN_b (cs' := [Value.int .i64 (p1.f_Kind), Value.int .i64 (p1.f_N), v2, v4]) rfl ag_25 ti_25 (hS.ev_ rfl) rfl hR) fun a hS => ?_
                    replace hM := hM.pull 1 rfl rfl
                    refine dk_want (i := 12) (S := Rd w0 K254 [SP.blk g13 25 [Value.int .i64 (p6.f_Kind), Value.int .i64 (p6.f_N), v7, v9]]) #[true, true, true, true, true, true, true, true, true, true, true, true, true, false, false, false, false, false, false, false, false, false, false, false, false, false, false, false] hS rfl (by kernel_rfl) rfl rfl rfl rfl rfl (by decide) (Rd.of hM.only) (fun w hR => r_ldN_b (cs' := [Value.int .i64 (p6.f_Kind), Value.int .i64 (p6.f_N), v7, v9]) rfl ag_25 ti_25 (hS.ev_ rfl) rfl hR) fun a hS => ?_
                    replace hM := hM.pull 3 rfl rfl
                    refine dk_want (i := 14) (S := Rd w0 K254 [SP.blk g37 36 [Value.int .i64 (x34.1), Value.int .i64 (x34.2.1), strV (x34.2.2.1), v38]]) #[true, true, true, true, true, true, true, true, true, true, true, true, true, false, true, false, false, false, false, false, false, false, false, false, false, false, false, false] hS rfl (by kernel_rfl) rfl rfl rfl rfl rfl (by decide) (Rd.of hM.only) (fun w hR => r_ldN_b (cs' := [Value.int .i64 (x34.1), Value.int .i64 (x34.2.1), strV (x34.2.2.1), v38]) rfl ag_36 ti_36 (hS.ev_ rfl) rfl hR) fun a hS => ?_
                    replace hM := hM.pull 3 rfl rfl
                    refine dk_want (i := 15) (S := Rd w0 K254 [SP.blk g41 36 [Value.int .i64 (x34.2.2.2.2.1), Value.int .i64 (x34.2.2.2.2.2.1), strV (x34.2.2.2.2.2.2.1), v42]]) #[true, true, true, true, true, true, true, true, true, true, true, true, true, false, true, true, false, false, false, false, false, false, false, false, false, false, false, false] hS rfl (by kernel_rfl) rfl rfl rfl rfl rfl (by decide) (Rd.of hM.only) (fun w hR => r_ldN_b (cs' := [Value.int .i64 (x34.2.2.2.2.1), Value.int .i64 (x34.2.2.2.2.2.1), strV (x34.2.2.2.2.2.2.1), v42]) rfl ag_36 ti_36 (hS.ev_ rfl) rfl hR) fun a hS => ?_
                    obtain ⟨y257, h258, h246⟩ := bindO h246
                    have hc260 := raw_Same_c hG h258 (Kd.sl_mono (((((((((((hlK17.trans hlK22).trans hlK24).trans hlK33).trans hlK178).trans hlK183).trans hlK198).trans hlK229).trans hlK238).trans hlK242).trans hlK249).trans hlK254) f3) (Kd.sl_mono (((((((((((hlK17.trans hlK22).trans hlK24).trans hlK33).trans hlK178).trans hlK183).trans hlK198).trans hlK229).trans hlK238).trans hlK242).trans hlK249).trans hlK254) f5) (Kd.sl_mono (((((((((((hlK17.trans hlK22).trans hlK24).trans hlK33).trans hlK178).trans hlK183).trans hlK198).trans hlK229).trans hlK238).trans hlK242).trans hlK249).trans hlK254) f8) (Kd.sl_mono (((((((((((hlK17.trans hlK22).trans hlK24).trans hlK33).trans hlK178).trans hlK183).trans hlK198).trans hlK229).trans hlK238).trans hlK242).trans hlK249).trans hlK254) f10) hM
                    refine dk_onew (i := 13) #[true, true, true, true, true, true, true, true, true, true, true, true, true, true, true, true, false, false, false, false, false, false, false, false, false, false, false, false] hS rfl (by kernel_rfl) rfl rfl rfl rfl (e_call rfl Tryd.func12 rfl rfl (args2 (hS.ev_ rfl) (hS.ev_ rfl)) hc260 ?_)
                    rintro _ w ⟨K259, hlK259, hM, rfl⟩
                    refine ⟨_, rfl, ?_⟩
                    refine pT hS rfl (by decide) (Dem.keep (fun _ => Rd.up hlK259 hM.only) (Dem.keep (fun _ => Rd.up hlK259 (hM.pull 1 rfl rfl).only) (Dem.wait (by kernel_rfl) (Dem.wait (by kernel_rfl) (Dem.wait (by kernel_rfl) (Dem.wait (by kernel_rfl) (Dem.wait (by kernel_rfl) (Dem.wait (by kernel_rfl) Dem.nil)))))))) fun a hS => ?_
                    obtain ⟨y261, h262, h246⟩ := bindO h246
                    have hc264 := R_Same_c hG h262 (Kd.sl_mono ((((((((hlK178.trans hlK183).trans hlK198).trans hlK229).trans hlK238).trans hlK242).trans hlK249).trans hlK254).trans hlK259) f39) (Kd.sl_mono ((((((((hlK178.trans hlK183).trans hlK198).trans hlK229).trans hlK238).trans hlK242).trans hlK249).trans hlK254).trans hlK259) f43) hM
                    refine dk_onew (i := 16) #[true, true, true, true, true, true, true, true, true, true, true, true, true, true, true, true, true, false, false, false, false, false, false, false, false, false, false, false] hS rfl (by kernel_rfl) rfl rfl rfl rfl (e_call rfl Tryd.func17 rfl rfl (args2 (hS.ev_ rfl) (hS.ev_ rfl)) hc264 ?_)
                    rintro _ w ⟨K263, hlK263, hM, rfl⟩
                    refine ⟨_, rfl, ?_⟩
                    refine pT hS rfl (by decide) (Dem.wait (by kernel_rfl) (Dem.wait (by kernel_rfl) (Dem.wait (by kernel_rfl) (Dem.wait (by kernel_rfl) (Dem.wait (by kernel_rfl) (Dem.wait (by kernel_rfl) (Dem.wait (by kernel_rfl) (Dem.wait (by kernel_rfl) Dem.nil)))))))) fun a hS => ?_
                    refine dk_want (i := 17) (S := Rd w0 K263 []) #[true, true, true, true, true, true, true, true, true, true, true, true, true, true, true, true, true, true, false, false, false, false, false, false, false, false, false, false] hS rfl (by kernel_rfl) rfl rfl rfl rfl rfl (by decide) (Rd.of hM.nil_) (fun w hR => r_beq rfl un_4 (hS.ev_ rfl) (hS.ev_ rfl)) fun a hS => ?_
                    refine dk_any (i := 18) #[true, true, true, true, true, true, true, true, true, true, true, true, true, true, true, true, true, true, true, false, false, false, false, false, false, false, false, false] hS rfl (by kernel_rfl) rfl rfl (by decide) (fun w => r_pick_true rfl (hS.ev_ rfl) rfl (hS.ev_ rfl)) fun a hS => ?_
                    refine dk_any (i := 19) #[true, true, true, true, true, true, true, true, true, true, true, true, true, true, true, true, true, true, true, true, false, false, false, false, false, false, false, false] hS rfl (by kernel_rfl) rfl rfl (by decide) (fun w => r_move rfl (hS.ev_ rfl)) fun a hS => ?_
                    rcases ifB h246 with ⟨hc265, h246⟩ | ⟨hc265, h246⟩
                    ·
                      replace hS := hS.known (k := 95) rfl hc265
                      refine dk_want (i := 20) (S := Rd w0 K263 []) #[true, true, true, true, true, true, true, true, true, true, true, true, true, true, true, true, true, true, true, true, true, false, false, false, false, false, false, false] hS rfl (by kernel_rfl) rfl rfl rfl rfl rfl (by decide) (Rd.of hM.nil_) (fun w hR => r_move rfl (hS.ev_ rfl)) fun a hS => ?_
                      refine dk_want (i := 21) (S := Rd w0 K263 []) #[true, true, true, true, true, true, true, true, true, true, true, true, true, true, true, true, true, true, true, true, true, true, false, false, false, false, false, false] hS rfl (by kernel_rfl) rfl rfl rfl rfl rfl (by decide) (Rd.of hM.nil_) (fun w hR => r_move rfl (hS.ev_ rfl)) fun a hS => ?_
                      refine dk_want (i := 22) (S := Rd w0 K263 []) #[true, true, true, true, true, true, true, true, true, true, true, true, true, true, true, true, true, true, true, true, true, true, true, false, false, false, false, false] hS rfl (by kernel_rfl) rfl rfl rfl rfl rfl (by decide) (Rd.of hM.nil_) (fun w hR => r_move rfl (hS.ev_ rfl)) fun a hS => ?_
                      refine dk_want (i := 23) (S := Rd w0 K263 []) #[true, true, true, true, true, true, true, true, true, true, true, true, true, true, true, true, true, true, true, true, true, true, true, true, false, false, false, false] hS rfl (by kernel_rfl) rfl rfl rfl rfl rfl (by decide) (Rd.of hM.nil_) (fun w hR => r_build (cs := [Value.int .i64 (y240.1), Value.int .i64 (y240.2.1), Value.int .i64 (y240.2.2)]) rfl (parts_ev hS rfl) (by kernel_rfl)) fun a hS => ?_
                      replace hM := hM.pull 4 rfl rfl
                      refine dk_want (i := 24) (S := Rd w0 K263 [SP.blk g180 39 [Value.int .i64 (o196.1), Value.int .i64 (o196.2.1), Value.int .i64 (o196.2.2)]]) #[true, true, true, true, true, true, true, true, true, true, true, true, true, true, true, true, true, true, true, true, true, true, true, true, true, false, false, false] hS rfl (by kernel_rfl) rfl rfl rfl rfl rfl (by decide) (Rd.of hM.only) (fun w hR => r_ldN_b (cs' := [Value.int .i64 (o196.1), Value.int .i64 (o196.2.1), Value.int .i64 (o196.2.2)]) rfl ag_39 ti_39 (hS.ev_ rfl) rfl hR) fun a hS => ?_
                      refine dk_want (i := 25) (S := Rd w0 K263 []) #[true, true, true, true, true, true, true, true, true, true, true, true, true, true, true, true, true, true, true, true, true, true, true, true, true, true, false, false] hS rfl (by kernel_rfl) rfl rfl rfl rfl rfl (by decide) (Rd.of hM.nil_) (fun w hR => r_eqar (us := [y240.1, y240.2.1, y240.2.2]) (vs := [o196.1, o196.2.1, o196.2.2]) rfl rfl rfl ea_39 (hS.ev_ rfl) (hS.ev_ rfl) rfl rfl) fun a hS => ?_
                      refine dk_any (i := 26) #[true, true, true, true, true, true, true, true, true, true, true, true, true, true, true, true, true, true, true, true, true, true, true, true, true, true, true, false] hS rfl (by kernel_rfl) rfl rfl (by decide) (fun w => r_pick_true rfl (hS.ev_ rfl) rfl (hS.ev_ rfl)) fun a hS => ?_
                      refine dk_any (i := 27) #[true, true, true, true, true, true, true, true, true, true, true, true, true, true, true, true, true, true, true, true, true, true, true, true, true, true, true, true] hS rfl (by kernel_rfl) rfl rfl (by decide) (fun w => r_assign rfl (hS.ev_ rfl)) fun a hS => ?_
                      refine tk_done (by kernel_rfl) ?_
                      replace hS : Slots 103 [] a [(4, Value.bool (([y240.1, y240.2.1, y240.2.2] : List Int) == ([o196.1, o196.2.1, o196.2.2] : List Int)))] := (hS.part (.cons rfl (.nil _)))
                      refine x_then ?_
                      obtain rfl := Option.some.inj h246
                      exact ⟨K263, (((hlK249.trans hlK254).trans hlK259).trans hlK263), (hS.part (.cons rfl (.nil _))), ((((hM.pull 2 rfl rfl).pull 2 rfl rfl).pull 4 rfl rfl).pull 4 rfl rfl)⟩
                    ·
                      replace hS := hS.known (k := 95) rfl hc265
                      refine dk_off (i := 20) (Rd w0 K263 []) #[true, true, true, true, true, true, true, true, true, true, true, true, true, true, true, true, true, true, true, true, true, false, false, false, false, false, false, false] hS rfl (by kernel_rfl) rfl rfl rfl rfl (.inl rfl) rfl (by decide) (Rd.of hM.nil_) fun a hS => ?_
                      refine dk_off (i := 21) (Rd w0 K263 []) #[true, true, true, true, true, true, true, true, true, true, true, true, true, true, true, true, true, true, true, true, true, true, false, false, false, false, false, false] hS rfl (by kernel_rfl) rfl rfl rfl rfl (.inl rfl) rfl (by decide) (Rd.of hM.nil_) fun a hS => ?_
                      refine dk_off (i := 22) (Rd w0 K263 []) #[true, true, true, true, true, true, true, true, true, true, true, true, true, true, true, true, true, true, true, true, true, true, true, false, false, false, false, false] hS rfl (by kernel_rfl) rfl rfl rfl rfl (.inl rfl) rfl (by decide) (Rd.of hM.nil_) fun a hS => ?_
                      refine dk_off (i := 23) (Rd w0 K263 []) #[true, true, true, true, true, true, true, true, true, true, true, true, true, true, true, true, true, true, true, true, true, true, true, true, false, false, false, false] hS rfl (by kernel_rfl) rfl rfl rfl rfl (.inl rfl) rfl (by decide) (Rd.of hM.nil_) fun a hS => ?_
                      refine dk_off (i := 24) (Rd w0 K263 []) #[true, true, true, true, true, true, true, true, true, true, true, true, true, true, true, true, true, true, true, true, true, true, true, true, true, false, false, false] hS rfl (by kernel_rfl) rfl rfl rfl rfl (.inl rfl) rfl (by decide) (Rd.of hM.nil_) fun a hS => ?_
                      refine dk_off (i := 25) (Rd w0 K263 []) #[true, true, true, true, true, true, true, true, true, true, true, true, true, true, true, true, true, true, true, true, true, true, true, true, true, true, false, false] hS rfl (by kernel_rfl) rfl rfl rfl rfl (.inl rfl) rfl (by decide) (Rd.of hM.nil_) fun a hS => ?_
                      refine dk_any (i := 26) #[true, true, true, true, true, true, true, true, true, true, true, true, true, true, true, true, true, true, true, true, true, true, true, true, true, true, true, false] hS rfl (by kernel_rfl) rfl rfl (by decide) (fun w => r_pick_false rfl (hS.ev_ rfl) rfl (hS.ev_ rfl)) fun a hS => ?_
                      refine dk_any (i := 27) #[true, true, true, true, true, true, true, true, true, true, true, true, true, true, true, true, true, true, true, true, true, true, true, true, true, true, true, true] hS rfl (by kernel_rfl) rfl rfl (by decide) (fun w => r_assign rfl (hS.ev_ rfl)) fun a hS => ?_
                      refine tk_done (by kernel_rfl) ?_
                      replace hS : Slots 103 [] a [(4, Value.bool (false))] := (hS.part (.cons rfl (.nil _)))
                      refine x_then ?_
                      obtain rfl := Option.some.inj h246
                      exact ⟨K263, (((hlK249.trans hlK254).trans hlK259).trans hlK263), (hS.part (.cons rfl (.nil _))), (((((hM.pull 4 rfl rfl).pull 2 rfl rfl).pull 2 rfl rfl).pull 4 rfl rfl).pull 4 rfl rfl)⟩
                  ·
                    replace hS := hS.known (k := 86) rfl hc256
                    refine dk_off (i := 11) (Rd w0 K254 []) #[true, true, true, true, true, true, true, true, true, true, true, true, false, false, false, false, false, false, false, false, false, false, false, false, false, false, false, false] hS rfl (by kernel_rfl) rfl rfl rfl rfl (.inl rfl) rfl (by decide) (Rd.of hM.nil_) fun a hS => ?_
                    refine dk_off (i := 12) (Rd w0 K254 []) #[true, true, true, true, true, true, true, true, true, true, true, true, true, false, false, false, false, false, false, false, false, false, false, false, false, false, false, false] hS rfl (by kernel_rfl) rfl rfl rfl rfl (.inl rfl) rfl (by decide) (Rd.of hM.nil_) fun a hS => ?_
                    refine dk_off (i := 13) (Rd w0 K254 []) #[true, true, true, true, true, true, true, true, true, true, true, true, true, true, false, false, false, false, false, false, false, false, false, false, false, false, false, false] hS rfl (by kernel_rfl) rfl rfl rfl rfl (.inl rfl) rfl (by decide) (Rd.of hM.nil_) fun a hS => ?_
                    refine dk_off (i := 14) (Rd w0 K254 []) #[true, true, true, true, true, true, true, true, true, true, true, true, true, true, true, false, false, false, false, false, false, false, false, false, false, false, false, false] hS rfl (by kernel_rfl) rfl rfl rfl rfl (.inl rfl) rfl (by decide) (Rd.of hM.nil_) fun a hS => ?_
                    refine dk_off (i := 15) (Rd w0 K254 []) #[true, true, true, true, true, true, true, true, true, true, true, true, true, true, true, true, false, false, false, false, false, false, false, false, false, false, false, false] hS rfl (by kernel_rfl) rfl rfl rfl rfl (.inl rfl) rfl (by decide) (Rd.of hM.nil_) fun a hS => ?_
                    refine dk_off (i := 16) (Rd w0 K254 []) #[true, true, true, true, true, true, true, true, true, true, true, true, true, true, true, true, true, false, false, false, false, false, false, false, false, false, false, false] hS rfl (by kernel_rfl) rfl rfl rfl rfl (.inl rfl) rfl (by decide) (Rd.of hM.nil_) fun a hS => ?_
                    refine dk_off (i := 17) (Rd w0 K254 []) #[true, true, true, true, true, true, true, true, true, true, true, true, true, true, true, true, true, true, false, false, false, false, false, false, false, false, false, false] hS rfl (by kernel_rfl) rfl rfl rfl rfl (.inl rfl) rfl (by decide) (Rd.of hM.nil_) fun a hS => ?_
                    refine dk_any (i := 18) #[true, true, true, true, true, true, true, true, true, true, true, true, true, true, true, true, true, true, true, false, false, false, false, false, false, false, false, false] hS rfl (by kernel_rfl) rfl rfl (by decide) (fun w => r_pick_false rfl (hS.ev_ rfl) rfl (hS.ev_ rfl)) fun a hS => ?_
                    refine dk_any (i := 19) #[true, true, true, true, true, true, true, true, true, true, true, true, true, true, true, true, true, true, true, true, false, false, false, false, false, false, false, false] hS rfl (by kernel_rfl) rfl rfl (by decide) (fun w => r_move rfl (hS.ev_ rfl)) fun a hS => ?_
                    refine dk_off (i := 20) (Rd w0 K254 []) #[true, true, true, true, true, true, true, true, true, true, true, true, true, true, true, true, true, true, true, true, true, false, false, false, false, false, false, false] hS rfl (by kernel_rfl) rfl rfl rfl rfl (.inl rfl) rfl (by decide) (Rd.of hM.nil_) fun a hS => ?_
                    refine dk_off (i := 21) (Rd w0 K254 []) #[true, true, true, true, true, true, true, true, true, true, true, true, true, true, true, true, true, true, true, true, true, true, false, false, false, false, false, false] hS rfl (by kernel_rfl) rfl rfl rfl rfl (.inl rfl) rfl (by decide) (Rd.of hM.nil_) fun a hS => ?_
                    refine dk_off (i := 22) (Rd w0 K254 []) #[true, true, true, true, true, true, true, true, true, true, true, true, true, true, true, true, true, true, true, true, true, true, true, false, false, false, false, false] hS rfl (by kernel_rfl) rfl rfl rfl rfl (.inl rfl) rfl (by decide) (Rd.of hM.nil_) fun a hS => ?_
                    refine dk_off (i := 23) (Rd w0 K254 []) #[true, true, true, true, true, true, true, true, true, true, true, true, true, true, true, true, true, true, true, true, true, true, true, true, false, false, false, false] hS rfl (by kernel_rfl) rfl rfl rfl rfl (.inl rfl) rfl (by decide) (Rd.of hM.nil_) fun a hS => ?_
                    refine dk_off (i := 24) (Rd w0 K254 []) #[true, true, true, true, true, true, true, true, true, true, true, true, true, true, true, true, true, true, true, true, true, true, true, true, true, false, false, false] hS rfl (by kernel_rfl) rfl rfl rfl rfl (.inl rfl) rfl (by decide) (Rd.of hM.nil_) fun a hS => ?_
                    refine dk_off (i := 25) (Rd w0 K254 []) #[true, true, true, true, true, true, true, true, true, true, true, true, true, true, true, true, true, true, true, true, true, true, true, true, true, true, false, false] hS rfl (by kernel_rfl) rfl rfl rfl rfl (.inl rfl) rfl (by decide) (Rd.of hM.nil_) fun a hS => ?_
                    refine dk_any (i := 26) #[true, true, true, true, true, true, true, true, true, true, true, true, true, true, true, true, true, true, true, true, true, true, true, true, true, true, true, false] hS rfl (by kernel_rfl) rfl rfl (by decide) (fun w => r_pick_false rfl (hS.ev_ rfl) rfl (hS.ev_ rfl)) fun a hS => ?_
                    refine dk_any (i := 27) #[true, true, true, true, true, true, true, true, true, true, true, true, true, true, true, true, true, true, true, true, true, true, true, true, true, true, true, true] hS rfl (by kernel_rfl) rfl rfl (by decide) (fun w => r_assign rfl (hS.ev_ rfl)) fun a hS => ?_
                    refine tk_done (by kernel_rfl) ?_
                    replace hS : Slots 103 [] a [(4, Value.bool (false))] := (hS.part (.cons rfl (.nil _)))
                    refine x_then ?_
                    obtain rfl := Option.some.inj h246
                    exact ⟨K254, (hlK249.trans hlK254), (hS.part (.cons rfl (.nil _))), (((((hM.pull 4 rfl rfl).pull 4 rfl rfl).pull 4 rfl rfl).pull 3 rfl rfl).pull 4 rfl rfl)⟩
                ·
                  replace hS := hS.known (k := 80) rfl hc251
                  refine dk_off (i := 5) (Rd w0 K249 []) #[true, true, true, true, true, true, false, false, false, false, false, false, false, false, false, false, false, false, false, false, false, false, false, false, false, false, false, false] hS rfl (by kernel_rfl) rfl rfl rfl rfl (.inl rfl) rfl (by decide) (Rd.of hM.nil_) fun a hS => ?_
                  refine dk_off (i := 6) (Rd w0 K249 []) #[true, true, true, true, true, true, true, false, false, false, false, false, false, false, false, false, false, false, false, false, false, false, false, false, false, false, false, false] hS rfl (by kernel_rfl) rfl rfl rfl rfl (.inl rfl) rfl (by decide) (Rd.of hM.nil_) fun a hS => ?_
                  refine dk_off (i := 7) (Rd w0 K249 []) #[true, true, true, true, true, true, true, true, false, false, false, false, false, false, false, false, false, false, false, false, false, false, false, false, false, false, false, false] hS rfl (by kernel_rfl) rfl rfl rfl rfl (.inl rfl) rfl (by decide) (Rd.of hM.nil_) fun a hS => ?_
                  refine dk_off (i := 8) (Rd w0 K249 []) #[true, true, true, true, true, true, true, true, true, false, false, false, false, false, false, false, false, false, false, false, false, false, false, false, false, false, false, false] hS rfl (by kernel_rfl) rfl rfl rfl rfl (.inl rfl) rfl (by decide) (Rd.of hM.nil_) fun a hS => ?_
                  refine dk_any (i := 9) #[true, true, true, true, true, true, true, true, true, true, false, false, false, false, false, false, false, false, false, false, false, false, false, false, false, false, false, false] hS rfl (by kernel_rfl) rfl rfl (by decide) (fun w => r_pick_false rfl (hS.ev_ rfl) rfl (hS.ev_ rfl)) fun a hS => ?_
                  refine dk_any (i := 10) #[true, true, true, true, true, true, true, true, true, true, true, false, false, false, false, false, false, false, false, false, false, false, false, false, false, false, false, false] hS rfl (by kernel_rfl) rfl rfl (by decide) (fun w => r_move rfl (hS.ev_ rfl)) fun a hS => ?_
                  refine dk_off (i := 11) (Rd w0 K249 []) #[true, true, true, true, true, true, true, true, true, true, true, true, false, false, false, false, false, false, false, false, false, false, false, false, false, false, false, false] hS rfl (by kernel_rfl) rfl rfl rfl rfl (.inl rfl) rfl (by decide) (Rd.of hM.nil_) fun a hS => ?_
                  refine dk_off (i := 12) (Rd w0 K249 []) #[true, true, true, true, true, true, true, true, true, true, true, true, true, false, false, false, false, false, false, false, false, false, false, false, false, false, false, false] hS rfl (by kernel_rfl) rfl rfl rfl rfl (.inl rfl) rfl (by decide) (Rd.of hM.nil_) fun a hS => ?_
                  refine dk_off (i := 13) (Rd w0 K249 []) #[true, true, true, true, true, true, true, true, true, true, true, true, true, true, false, false, false, false, false, false, false, false, false, false, false, false, false, false] hS rfl (by kernel_rfl) rfl rfl rfl rfl (.inl rfl) rfl (by decide) (Rd.of hM.nil_) fun a hS => ?_
                  refine dk_off (i := 14) (Rd w0 K249 []) #[true, true, true, true, true, true, true, true, true, true, true, true, true, true, true, false, false, false, false, false, false, false, false, false, false, false, false, false] hS rfl (by kernel_rfl) rfl rfl rfl rfl (.inl rfl) rfl (by decide) (Rd.of hM.nil_) fun a hS => ?_
                  refine dk_off (i := 15) (Rd w0 K249 []) #[true, true, true, true, true, true, true, true, true, true, true, true, true, true, true, true, false, false, false, false, false, false, false, false, false, false, false, false] hS rfl (by kernel_rfl) rfl rfl rfl rfl (.inl rfl) rfl (by decide) (Rd.of hM.nil_) fun a hS => ?_
                  refine dk_off (i := 16) (Rd w0 K249 []) #[true, true, true, true, true, true, true, true, true, true, true, true, true, true, true, true, true, false, false, false, false, false, false, false, false, false, false, false] hS rfl (by kernel_rfl) rfl rfl rfl rfl (.inl rfl) rfl (by decide) (Rd.of hM.nil_) fun a hS => ?_
                  refine dk_off (i := 17) (Rd w0 K249 []) #[true, true, true, true, true, true, true, true, true, true, true, true, true, true, true, true, true, true, false, false, false, false, false, false, false, false, false, false] hS rfl (by kernel_rfl) rfl rfl rfl rfl (.inl rfl) rfl (by decide) (Rd.of hM.nil_) fun a hS => ?_
                  refine dk_any (i := 18) #[true, true, true, true, true, true, true, true, true, true, true, true, true, true, true, true, true, true, true, false, false, false, false, false, false, false, false, false] hS rfl (by kernel_rfl) rfl rfl (by decide) (fun w => r_pick_false rfl (hS.ev_ rfl) rfl (hS.ev_ rfl)) fun a hS => ?_
                  refine dk_any (i := 19) #[true, true, true, true, true, true, true, true, true, true, true, true, true, true, true, true, true, true, true, true, false, false, false, false, false, false, false, false] hS rfl (by kernel_rfl) rfl rfl (by decide) (fun w => r_move rfl (hS.ev_ rfl)) fun a hS => ?_
                  refine dk_off (i := 20) (Rd w0 K249 []) #[true, true, true, true, true, true, true, true, true, true, true, true, true, true, true, true, true, true, true, true, true, false, false, false, false, false, false, false] hS rfl (by kernel_rfl) rfl rfl rfl rfl (.inl rfl) rfl (by decide) (Rd.of hM.nil_) fun a hS => ?_
                  refine dk_off (i := 21) (Rd w0 K249 []) #[true, true, true, true, true, true, true, true, true, true, true, true, true, true, true, true, true, true, true, true, true, true, false, false, false, false, false, false] hS rfl (by kernel_rfl) rfl rfl rfl rfl (.inl rfl) rfl (by decide) (Rd.of hM.nil_) fun a hS => ?_
                  refine dk_off (i := 22) (Rd w0 K249 []) #[true, true, true, true, true, true, true, true, true, true, true, true, true, true, true, true, true, true, true, true, true, true, true, false, false, false, false, false] hS rfl (by kernel_rfl) rfl rfl rfl rfl (.inl rfl) rfl (by decide) (Rd.of hM.nil_) fun a hS => ?_
                  refine dk_off (i := 23) (Rd w0 K249 []) #[true, true, true, true, true, true, true, true, true, true, true, true, true, true, true, true, true, true, true, true, true, true, true, true, false, false, false, false] hS rfl (by kernel_rfl) rfl rfl rfl rfl (.inl rfl) rfl (by decide) (Rd.of hM.nil_) fun a hS => ?_
                  refine dk_off (i := 24) (Rd w0 K249 []) #[true, true, true, true, true, true, true, true, true, true, true, true, true, true, true, true, true, true, true, true, true, true, true, true, true, false, false, false] hS rfl (by kernel_rfl) rfl rfl rfl rfl (.inl rfl) rfl (by decide) (Rd.of hM.nil_) fun a hS => ?_
                  refine dk_off (i := 25) (Rd w0 K249 []) #[true, true, true, true, true, true, true, true, true, true, true, true, true, true, true, true, true, true, true, true, true, true, true, true, true, true, false, false] hS rfl (by kernel_rfl) rfl rfl rfl rfl (.inl rfl) rfl (by decide) (Rd.of hM.nil_) fun a hS => ?_
                  refine dk_any (i := 26) #[true, true, true, true, true, true, true, true, true, true, true, true, true, true, true, true, true, true, true, true, true, true, true, true, true, true, true, false] hS rfl (by kernel_rfl) rfl rfl (by decide) (fun w => r_pick_false rfl (hS.ev_ rfl) rfl (hS.ev_ rfl)) fun a hS => ?_
                  refine dk_any (i := 27) #[true, true, true, true, true, true, true, true, true, true, true, true, true, true, true, true, true, true, true, true, true, true, true, true, true, true, true, true] hS rfl (by kernel_rfl) rfl rfl (by decide) (fun w => r_assign rfl (hS.ev_ rfl)) fun a hS => ?_
                  refine tk_done (by kernel_rfl) ?_
                  replace hS : Slots 103 [] a [(4, Value.bool (false))] := (hS.part (.cons rfl (.nil _)))
                  refine x_then ?_
                  obtain rfl := Option.some.inj h246
                  exact ⟨K249, hlK249, (hS.part (.cons rfl (.nil _))), (((((hM.pull 4 rfl rfl).pull 4 rfl rfl).pull 4 rfl rfl).pull 3 rfl rfl).pull 4 rfl rfl)⟩
              · rintro a w ⟨K244, hlK244, hS, hM⟩
                refine wp_ret ?_
                have hr' := Option.some.inj h
                subst hr'
                refine ret1 (.inr rfl) hS rfl rfl ?_
                exact ⟨K244, ((((((((((hlK17.trans hlK22).trans hlK24).trans hlK33).trans hlK178).trans hlK183).trans hlK198).trans hlK229).trans hlK238).trans hlK242).trans hlK244), (((((hM).tail).tail).tail).tail).tail, rfl⟩

end Go.Proofs.YthjfnknhcmhmiaaDoor
