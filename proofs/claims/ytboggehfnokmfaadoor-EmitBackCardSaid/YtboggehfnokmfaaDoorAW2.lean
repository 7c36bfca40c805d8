/-
  What the code computes: plain functions, and the walks.: the walks, part 2.
-/
import Derived.Test.YtboggehfnokmfaaDoorAW1
set_option linter.unusedVariables false
set_option linter.unusedSimpArgs false
set_option maxRecDepth 10000
set_option maxHeartbeats 1000000
set_option synthInstance.maxHeartbeats 400000
set_option synthInstance.maxSize 2000
namespace Go.Proofs.YtboggehfnokmfaaDoor
open Go Go.RowKit Sl

theorem codes_Plain_c {w0 w : World} {K : Hp} {L : List SP} {p1 : Int} {r : Bool} (hG : Glob w0) (h : codes_Plain p1 = some r) (hM : Sat w0 w K (L)) :
    Calls Tryd.prog 26 #[Value.int .i64 (p1)] w (fun e w' => ∃ (K' : Hp), Hp.le K K' ∧ Sat w0 w' K' (L) ∧ e = .returned (Value.bool (r))) := by
  refine enter_ (n := 9) (args := [Value.int .i64 (p1)]) Tryd.func26 rfl rfl (Nat.le_of_ble_eq_true rfl) fun a hS => ?_
  replace hS : Slots 9 [] a [(0, Value.int .i64 (p1))] := hS
  unfold codes_Plain at h
  refine wp_seq ?_
  refine wp_region_lit ?_
  refine st_val hS rfl rfl (by decide) (r_assign rfl (hS.ev_ rfl)) fun a hS => ?_
  refine st_done ?_
  replace hS : Slots 9 [] a [(2, Value.bool (false)), (0, Value.int .i64 (p1))] := (hS.part (.cons rfl (.cons rfl (.nil _))))
  refine x_then ?_
  refine wp_seq ?_
  refine wp_region_lit ?_
  refine st_val hS rfl rfl (by decide) (r_move rfl (hS.ev_ rfl)) fun a hS => ?_
  refine st_val hS rfl rfl (by decide) (r_cmp rfl (hS.ev_ rfl) (hS.ev_ rfl) rfl) fun a hS => ?_
  refine st_val hS rfl rfl (by decide) (r_move rfl (hS.ev_ rfl)) fun a hS => ?_
  obtain ⟨x2, h3, h⟩ := bindO h
  refine wl_cut 3 (fun a w => Slots 9 [] a [(2, Value.bool (false)), (8, Value.bool (x2))] ∧ Sat w0 w K (L)) ?_ ?_
  ·
    skip
    rcases ifB h3 with ⟨hc4, h3⟩ | ⟨hc4, h3⟩
    ·
      replace hS := hS.known (k := 5) rfl hc4
      refine st_want hS rfl rfl rfl rfl rfl (by decide) (r_move rfl (hS.ev_ rfl)) fun a hS => ?_
      refine st_want hS rfl rfl rfl rfl rfl (by decide) (r_cmp rfl (hS.ev_ rfl) (hS.ev_ rfl) rfl) fun a hS => ?_
      refine st_val hS rfl rfl (by decide) (r_pick_true rfl (hS.ev_ rfl) rfl (hS.ev_ rfl)) fun a hS => ?_
      refine st_done ?_
      replace hS : Slots 9 [] a [(8, Value.bool (decide (p1 ≤ 249))), (2, Value.bool (false))] := (hS.part (.cons rfl (.cons rfl (.nil _))))
      refine x_then ?_
      obtain rfl := Option.some.inj h3
      exact ⟨(hS.part (.cons rfl (.cons rfl (.nil _)))), hM⟩
    ·
      replace hS := hS.known (k := 5) rfl hc4
      refine st_off hS rfl rfl rfl rfl rfl rfl (by decide) fun a hS => ?_
      refine st_off hS rfl rfl rfl rfl rfl rfl (by decide) fun a hS => ?_
      refine st_val hS rfl rfl (by decide) (r_pick_false rfl (hS.ev_ rfl) rfl (hS.ev_ rfl)) fun a hS => ?_
      refine st_done ?_
      replace hS : Slots 9 [] a [(8, Value.bool (false)), (2, Value.bool (false))] := (hS.part (.cons rfl (.cons rfl (.nil _))))
      refine x_then ?_
      obtain rfl := Option.some.inj h3
      exact ⟨(hS.part (.cons rfl (.cons rfl (.nil _)))), hM⟩
  · rintro a w ⟨hS, hM⟩
    refine st_val hS rfl rfl (by decide) (r_assign rfl (hS.ev_ rfl)) fun a hS => ?_
    refine st_done ?_
    replace hS : Slots 9 [] a [(2, Value.bool (x2))] := (hS.part (.cons rfl (.nil _)))
    refine x_then ?_
    refine wp_ret ?_
    have hr' := Option.some.inj h
    subst hr'
    refine ret1 (.inr rfl) hS rfl rfl ?_
    exact ⟨K, (Hp.le.refl _), hM, rfl⟩

theorem emit_Plain_c {w0 w : World} {K : Hp} {L : List SP} {p1 : Int} {r : (List UInt8) × (Option Nat)} (hG : Glob w0) (h : emit_Plain p1 = some r) (hM : Sat w0 w K (L)) :
    Calls Tryd.prog 21 #[Value.int .i64 (p1)] w (fun e w' => ∃ (K' : Hp) (v'1 : Value), Hp.le K K' ∧ Sat w0 w' K' (L) ∧ e = .returned (Value.tuple #[v'1, eV w0 r.2]) ∧ Kd.u8.sl K' v'1 r.1) := by
  refine enter_ (n := 11) (args := [Value.int .i64 (p1)]) Tryd.func21 rfl rfl (Nat.le_of_ble_eq_true rfl) fun a hS => ?_
  replace hS : Slots 11 [] a [(0, Value.int .i64 (p1))] := hS
  unfold emit_Plain at h
  refine wp_seq ?_
  refine wp_region_lit ?_
  refine st_val hS rfl rfl (by decide) (r_assign rfl (hS.ev_ rfl)) fun a hS => ?_
  refine st_val hS rfl rfl (by decide) (r_assign rfl (hS.ev_ rfl)) fun a hS => ?_
  refine st_done ?_
  replace hS : Slots 11 [] a [(3, eV w0 ((none : Option Nat))), (2, Value.slice none 0 0), (0, Value.int .i64 (p1))] := (hS.part (.cons rfl (.cons rfl (.cons rfl (.nil _)))))
  refine x_then ?_
  refine wp_seq ?_
  refine wp_seq ?_
  refine wp_region_lit ?_
  refine st_val hS rfl rfl (by decide) (r_move rfl (hS.ev_ rfl)) fun a hS => ?_
  obtain ⟨y2, h3, h⟩ := bindO h
  have hc5 := codes_Plain_c hG h3 hM
  refine wl_cons rfl (e_call rfl Tryd.func26 rfl rfl (args1 (hS.ev_ rfl)) hc5 ?_)
  rintro _ w ⟨K4, hlK4, hM, rfl⟩
  refine ⟨_, rfl, ?_⟩
  refine pl hS rfl (by decide) fun a hS => ?_
  refine st_val hS rfl rfl (by decide) (r_not rfl (hS.ev_ rfl)) fun a hS => ?_
  refine st_done ?_
  replace hS : Slots 11 [] a [(6, Value.bool (!y2)), (3, eV w0 ((none : Option Nat))), (2, Value.slice none 0 0), (0, Value.int .i64 (p1))] := (hS.part (.cons rfl (.cons rfl (.cons rfl (.cons rfl (.nil _))))))
  refine x_then ?_
  rcases ifB h with ⟨hc6, h⟩ | ⟨hc6, h⟩
  · refine c_cond_true (hS.ev_ rfl) hc6 ?_
    refine wp_seq ?_
    refine tk_start #[false, false, false] mixed_ rfl rfl ?_
    replace hM := hM.drew
    generalize w.drew = w at hM ⊢
    refine dk_val (i := 0) (S := Rd w0 K4 []) #[true, false, false] hS rfl (by kernel_rfl) rfl rfl (by decide) (Rd.up (Hp.le.refl _) hM.nil_) (fun w hR => r_ldG rfl ag_32 (hS.ev_ rfl) (hG 0 (by decide)) hR) fun a hS => ?_
    refine dk_any (i := 1) #[true, true, false] hS rfl (by kernel_rfl) rfl rfl (by decide) (fun w => r_assign rfl (hS.ev_ rfl)) fun a hS => ?_
    refine dk_any (i := 2) #[true, true, true] hS rfl (by kernel_rfl) rfl rfl (by decide) (fun w => r_assign rfl (hS.ev_ rfl)) fun a hS => ?_
    refine tk_done (by kernel_rfl) ?_
    replace hS : Slots 11 [] a [(3, eV w0 ((some 0 : Option Nat))), (2, Value.slice none 0 0), (0, Value.int .i64 (p1))] := (hS.part (.cons rfl (.cons rfl (.cons rfl (.nil _)))))
    refine x_then ?_
    refine wp_ret ?_
    refine x_then_ret ?_
    have hr' := Option.some.inj h
    subst hr'
    refine ret2 (.inr rfl) hS rfl rfl rfl ?_
    exact ⟨K4, (Value.slice none 0 0), hlK4, hM, rfl, (Kd.sl_nil _ _)⟩
  · refine c_cond_false (hS.ev_ rfl) hc6 ?_
    refine wp_skip ?_
    refine x_then ?_
    refine wp_seq ?_
    refine wp_region_lit ?_
    refine st_val hS rfl rfl (by decide) (r_move rfl (hS.ev_ rfl)) fun a hS => ?_
    refine st_val hS rfl rfl (by decide) (r_conv_i8 rfl un_3 un_5 (hS.ev_ rfl)) fun a hS => ?_
    refine wl_cons rfl (e_litK (d := Kd.u8) (e := 5) (cs := [Value.int .u8 (b8 (255)), Value.int .u8 (b8 (toB p1))]) (xs := [255, toB p1]) hM rfl (parts_ev hS rfl) (by kernel_rfl) ⟨[Value.int .u8 (b8 (255))], [Value.int .u8 (b8 (toB p1))], rfl, rfl, ⟨[Value.int .u8 (b8 (toB p1))], [], rfl, rfl, rfl⟩⟩ rfl (by decide) fun v7 K8 w hlK8 hM f9 => ?_)
    refine pl hS rfl (by decide) fun a hS => ?_
    refine st_val hS rfl rfl (by decide) (r_assign rfl (hS.ev_ rfl)) fun a hS => ?_
    refine st_val hS rfl rfl (by decide) (r_assign rfl (hS.ev_ rfl)) fun a hS => ?_
    refine st_done ?_
    replace hS : Slots 11 [] a [(3, eV w0 ((none : Option Nat))), (2, v7)] := (hS.part (.cons rfl (.cons rfl (.nil _))))
    refine x_then ?_
    refine wp_ret ?_
    have hr' := Option.some.inj h
    subst hr'
    refine ret2 (.inr rfl) hS rfl rfl rfl ?_
    exact ⟨K8, (v7), (hlK4.trans hlK8), hM, rfl, f9⟩

theorem slices_Grow_byte_byte_c {w0 w : World} {K : Hp} {L : List SP} {p2 : Int} {r : List UInt8} (hG : Glob w0) (h : slices_Grow_byte_byte p2 = some r) (hM : Sat w0 w K (L)) :
    Calls Tryd.prog 35 #[Value.slice none 0 0, Value.int .i64 (p2)] w (fun e w' => ∃ (K' : Hp) (v'1 : Value), Hp.le K K' ∧ Sat w0 w' K' (SP.row Kd.u8 5 v'1 r :: L) ∧ e = .returned (v'1)) := by
  refine enter_ (n := 27) (args := [Value.slice none 0 0, Value.int .i64 (p2)]) Tryd.func35 rfl rfl (Nat.le_of_ble_eq_true rfl) fun a hS => ?_
  replace hS : Slots 27 [] a [(0, Value.slice none 0 0), (1, Value.int .i64 (p2))] := hS
  unfold slices_Grow_byte_byte at h
  replace hM := hM.row_nil Kd.u8 5
  refine wp_seq ?_
  refine wp_region_lit ?_
  refine st_val hS rfl rfl (by decide) (r_assign rfl (hS.ev_ rfl)) fun a hS => ?_
  replace hM := hM.row_nil Kd.u8 5
  refine st_done ?_
  replace hS : Slots 27 [] a [(4, (Value.slice none 0 0)), (0, (Value.slice none 0 0)), (1, Value.int .i64 (p2))] := (hS.part (.cons rfl (.cons rfl (.cons rfl (.nil _)))))
  refine x_then ?_
  obtain ⟨x4, h5, h⟩ := bindO h
  refine c_cut (fun a w => Slots 27 [] a [(0, (Value.slice none 0 0)), (1, Value.int .i64 (p2)), (4, (Value.slice none 0 0))] ∧ Sat w0 w K (SP.row Kd.u8 5 ((Value.slice none 0 0)) ([] : List UInt8) :: SP.row Kd.u8 5 ((Value.slice none 0 0)) ([] : List UInt8) :: L)) ?_ ?_
  ·
    refine wp_seq ?_
    refine wp_region_lit ?_
    refine st_val hS rfl rfl (by decide) (r_move rfl (hS.ev_ rfl)) fun a hS => ?_
    refine st_val hS rfl rfl (by decide) (r_cmp rfl (hS.ev_ rfl) (hS.ev_ rfl) rfl) fun a hS => ?_
    refine st_done ?_
    replace hS : Slots 27 [] a [(6, Value.bool (decide (p2 < 0))), (4, (Value.slice none 0 0)), (0, (Value.slice none 0 0)), (1, Value.int .i64 (p2))] := (hS.part (.cons rfl (.cons rfl (.cons rfl (.cons rfl (.nil _))))))
    refine x_then ?_
    rcases ifB h5 with ⟨hc6, h5⟩ | ⟨hc6, h5⟩
    · refine c_cond_true (hS.ev_ rfl) hc6 ?_
      refine wp_region_lit ?_
      cases h5
    · refine c_cond_false (hS.ev_ rfl) hc6 ?_
      refine wp_skip ?_
      refine x_then ?_
      obtain rfl := Option.some.inj h5
      exact ⟨(hS.part (.cons rfl (.cons rfl (.cons rfl (.nil _))))), ((hM.pull 1 rfl rfl).pull 1 rfl rfl)⟩
  · rintro a w ⟨hS, hM⟩
    obtain ⟨x7, h8, h⟩ := bindO h
    refine c_cut (fun a w => ∃ (v9 : Value), Slots 27 [] a [(4, (Value.slice none 0 0)), (0, v9)] ∧ Sat w0 w K (SP.row Kd.u8 5 ((Value.slice none 0 0)) ([] : List UInt8) :: SP.row Kd.u8 5 v9 x7 :: L)) ?_ ?_
    ·
      refine wp_seq ?_
      refine wp_region_lit ?_
      refine st_val hS rfl rfl (by decide) (r_move rfl (hS.ev_ rfl)) fun a hS => ?_
      refine st_val hS rfl rfl (by decide) (r_move rfl (hS.ev_ rfl)) fun a hS => ?_
      refine st_val hS rfl rfl (by decide) (r_cap_nil (A := none) (n := 0) (c := 0) rfl un_23 (hS.ev_ (v := Value.slice none 0 0) rfl)) fun a hS => ?_
      refine st_val hS rfl rfl (by decide) (r_move rfl (hS.ev_ rfl)) fun a hS => ?_
      refine st_val hS rfl rfl (by decide) (r_len_slice rfl un_23 (hS.ev_ rfl)) fun a hS => ?_
      refine st_val hS rfl rfl (by decide) (r_sub rfl (hS.ev_ rfl) (hS.ev_ rfl)) fun a hS => ?_
      refine st_val hS rfl rfl (by decide) (r_sub rfl (hS.ev_ rfl) (hS.ev_ rfl)) fun a hS => ?_
      refine st_val hS rfl rfl (by decide) (r_assign rfl (hS.ev_ rfl)) fun a hS => ?_
      refine st_done ?_
      replace hS : Slots 27 [] a [(1, Value.int .i64 (w64 (p2 - (w64 (0 - 0))))), (0, (Value.slice none 0 0)), (4, (Value.slice none 0 0))] := (hS.part (.cons rfl (.cons rfl (.cons rfl (.nil _)))))
      refine x_then ?_
      refine wp_seq ?_
      refine wp_region_lit ?_
      refine st_val hS rfl rfl (by decide) (r_move rfl (hS.ev_ rfl)) fun a hS => ?_
      refine st_val hS rfl rfl (by decide) (r_cmp rfl (hS.ev_ rfl) (hS.ev_ rfl) rfl) fun a hS => ?_
      refine st_done ?_
      replace hS : Slots 27 [] a [(16, Value.bool (decide ((w64 (p2 - (w64 (0 - 0)))) > 0))), (1, Value.int .i64 (w64 (p2 - (w64 (0 - 0))))), (0, (Value.slice none 0 0)), (4, (Value.slice none 0 0))] := (hS.part (.cons rfl (.cons rfl (.cons rfl (.cons rfl (.nil _))))))
      refine x_then ?_
      rcases ifB h8 with ⟨hc10, h8⟩ | ⟨hc10, h8⟩
      · refine c_cond_true (hS.ev_ rfl) hc10 ?_
        refine wp_region_lit ?_
        refine st_val hS rfl rfl (by decide) (r_move rfl (hS.ev_ rfl)) fun a hS => ?_
        refine st_val hS rfl rfl (by decide) (r_move rfl (hS.ev_ rfl)) fun a hS => ?_
        refine st_val hS rfl rfl (by decide) (r_cap_nil (A := none) (n := 0) (c := 0) rfl un_23 (hS.ev_ (v := Value.slice none 0 0) rfl)) fun a hS => ?_
        refine st_val hS rfl rfl (by decide) (r_cut_nil (k := .i64) rfl un_23 ti_5 (hS.ev_ (v := Value.slice none 0 0) rfl) (hS.ev_ (v := Value.int .i64 0) rfl)) fun a hS => ?_
        refine st_val hS rfl rfl (by decide) (r_move rfl (hS.ev_ rfl)) fun a hS => ?_
        obtain ⟨h11, h8⟩ := bindU h8
        replace hM := hM.pull 1 rfl rfl
        replace hM := hM.tail
        refine wl_cons rfl (e_apdz (d := Kd.u8) (x0 := 0) (u := Value.int .u8 0) hM rfl un_23 un_3 ti_5 rfl rfl rfl (hS.ev_ (v := Value.slice none 0 0) rfl) (hS.ev_ rfl) (req_some h11) fun v12 w hM => ?_)
        refine pl hS rfl (by decide) fun a hS => ?_
        refine st_val hS rfl rfl (by decide) (r_move rfl (hS.ev_ rfl)) fun a hS => ?_
        refine st_val hS rfl rfl (by decide) (r_len_slice rfl un_23 (hS.ev_ rfl)) fun a hS => ?_
        obtain ⟨s14, h15, h8⟩ := bindO h8
        obtain ⟨v16, hs17, h0_18, hu19⟩ := cut_row (P := Tryd.prog) (a := a) (k := .i64) (.tmp 22) none (some (.tmp 24)) un_23 ti_5 (hS.ev_ rfl) hM (.inr ⟨rfl, rfl⟩) (.inl (congrArg some (hS.ev_ rfl))) h15
        obtain ⟨ad20, cp21, he22, he23⟩ := h0_18 rfl
        subst he23
        replace hM := hM.row_trunc (m := 0) he22 (by have := cutL_some h15; omega)
        refine st_val hS rfl rfl (by decide) (hu19 _ _ rfl) fun a hS => ?_
        refine st_val hS rfl rfl (by decide) (r_assign rfl (hS.ev_ rfl)) fun a hS => ?_
        refine st_done ?_
        replace hS : Slots 27 [] a [(0, (Value.slice ad20 0 cp21)), (4, (Value.slice none 0 0))] := (hS.part (.cons rfl (.cons rfl (.nil _))))
        refine x_then ?_
        obtain rfl := Option.some.inj h8
        exact ⟨((Value.slice ad20 0 cp21)), (hS.part (.cons rfl (.cons rfl (.nil _)))), (hM.pull 1 rfl rfl)⟩
      · refine c_cond_false (hS.ev_ rfl) hc10 ?_
        refine wp_skip ?_
        refine x_then ?_
        obtain rfl := Option.some.inj h8
        exact ⟨((Value.slice none 0 0)), (hS.part (.cons rfl (.cons rfl (.nil _)))), ((hM.pull 1 rfl rfl).pull 1 rfl rfl)⟩
    · rintro a w ⟨v9, hS, hM⟩
      refine wp_seq ?_
      refine wp_region_lit ?_
      refine st_val hS rfl rfl (by decide) (r_move rfl (hS.ev_ rfl)) fun a hS => ?_
      refine st_val hS rfl rfl (by decide) (r_assign rfl (hS.ev_ rfl)) fun a hS => ?_
      refine st_done ?_
      replace hS : Slots 27 [] a [(4, v9)] := (hS.part (.cons rfl (.nil _)))
      refine x_then ?_
      refine wp_ret ?_
      have hr' := Option.some.inj h
      subst hr'
      refine ret1 (.inr rfl) hS rfl rfl ?_
      exact ⟨K, (v9), (Hp.le.refl _), (hM).tail, rfl⟩

theorem slices_Concat_byte_byte_c {w0 w : World} {K : Hp} {L : List SP} {p1 : List (List UInt8)} {v2 : Value} {r : List UInt8} (hG : Glob w0) (h : slices_Concat_byte_byte p1 = some r) (f3 : (Kd.slice Kd.u8).sl K v2 p1) (hM : Sat w0 w K (L)) :
    Calls Tryd.prog 27 #[v2] w (fun e w' => ∃ (K' : Hp) (v'1 : Value), Hp.le K K' ∧ Sat w0 w' K' (L) ∧ e = .returned (v'1) ∧ Kd.u8.sl K' v'1 r) := by
  refine enter_ (n := 36) (args := [v2]) Tryd.func27 rfl rfl (Nat.le_of_ble_eq_true rfl) fun a hS => ?_
  replace hS : Slots 36 [] a [(0, v2)] := hS
  unfold slices_Concat_byte_byte at h
  refine wp_seq ?_
  refine wp_region_lit ?_
  refine st_val hS rfl rfl (by decide) (r_assign rfl (hS.ev_ rfl)) fun a hS => ?_
  refine st_done ?_
  replace hS : Slots 36 [] a [(2, Value.slice none 0 0), (0, v2)] := (hS.part (.cons rfl (.cons rfl (.nil _))))
  refine x_then ?_
  refine wp_seq ?_
  refine wp_region_lit ?_
  refine st_val hS rfl rfl (by decide) (r_assign rfl (hS.ev_ rfl)) fun a hS => ?_
  refine st_done ?_
  replace hS : Slots 36 [] a [(3, Value.int .i64 (0)), (2, Value.slice none 0 0), (0, v2)] := (hS.part (.cons rfl (.cons rfl (.cons rfl (.nil _)))))
  refine x_then ?_
  refine wp_seq ?_
  refine wp_seq ?_
  refine wp_region_lit ?_
  refine st_val hS rfl rfl (by decide) (r_move rfl (hS.ev_ rfl)) fun a hS => ?_
  refine st_val hS rfl rfl (by decide) (r_len_sl rfl un_59 (hS.ev_ rfl) f3) fun a hS => ?_
  refine st_val hS rfl rfl (by decide) (r_move rfl (hS.ev_ rfl)) fun a hS => ?_
  refine st_done ?_
  replace hS : Slots 36 [] a [(11, Value.int .i64 (0)), (10, Value.int .i64 ((p1.length : Int))), (9, v2), (3, Value.int .i64 (0)), (2, Value.slice none 0 0), (0, v2)] := (hS.part (.cons rfl (.cons rfl (.cons rfl (.cons rfl (.cons rfl (.cons rfl (.nil _))))))))
  refine x_then ?_
  refine wp_block ?_
  obtain ⟨o11, h12, h⟩ := bindO h
  refine c_loop_ways (fun e a w => (e = .exit 0 ∧ ∃ (K13 : Hp), Hp.le K K13 ∧ Slots 36 [] a [(0, v2), (2, Value.slice none 0 0), (3, Value.int .i64 (o11))] ∧ Sat w0 w K13 (L))) ?_ ?_
  · intro c Q hc hQ
    have key : ∀ (x9 : Int) (x10 : Int) (r' : Int), slices_Concat_byte_byte_l1 p1 x9 x10 = some r' → r' = o11 → ∀ (K8 : Hp) (a : Act) (w : World), Hp.le K K8 → Slots 36 [] a [(11, Value.int .i64 (x9)), (10, Value.int .i64 ((p1.length : Int))), (9, v2), (3, Value.int .i64 (x10)), (2, Value.slice none 0 0), (0, v2)] → Sat w0 w K8 (L) → Rnd Tryd.prog c Q a w := by
      refine slices_Concat_byte_byte_l1.partial_correctness p1 _ ?_
      intro slices_Concat_byte_byte_l1_rec ih x9 x10 r' h hr K8  a w hlK8 hS hM 
      subst hc
      refine c_round ?_
      refine wp_seq ?_
      refine wp_region_lit ?_
      refine st_val hS rfl rfl (by decide) (r_cmp rfl (hS.ev_ rfl) (hS.ev_ rfl) rfl) fun a hS => ?_
      refine st_done ?_
      replace hS : Slots 36 [] a [(12, Value.bool (decide (x9 < ((p1.length : Int))))), (11, Value.int .i64 (x9)), (10, Value.int .i64 ((p1.length : Int))), (9, v2), (3, Value.int .i64 (x10)), (2, Value.slice none 0 0), (0, v2)] := (hS.part (.cons rfl (.cons rfl (.cons rfl (.cons rfl (.cons rfl (.cons rfl (.cons rfl (.nil _)))))))))
      refine x_then ?_
      refine wp_seq ?_
      rcases ifB h with ⟨hc14, h⟩ | ⟨hc14, h⟩
      · refine c_cond_true (hS.ev_ rfl) hc14 ?_
        refine wp_skip ?_
        refine x_then ?_
        obtain ⟨x15, h16, h⟩ := bindO h
        refine c_cut (fun a w => Slots 36 [] a [(0, v2), (2, Value.slice none 0 0), (9, v2), (10, Value.int .i64 ((p1.length : Int))), (11, Value.int .i64 (x9)), (3, Value.int .i64 (x15))] ∧ Sat w0 w K8 (L)) ?_ ?_
        ·
          refine wp_block ?_
          refine wp_seq ?_
          refine wp_region_lit ?_
          obtain ⟨e17, h18, h16⟩ := bindO h16
          obtain ⟨ad19, cp20, cs21, hv22, hr23, h0_24, h1_25, hq26⟩ := sl_at f3 h18 (by decide)
          obtain ⟨v27, rfl, f28⟩ := hr23
          refine st_val hS rfl rfl (by decide) (r_idx_sl rfl un_59 ti_23 (hS.ev_ rfl) hv22 (hS.ev_ rfl) h0_24 h1_25) fun a hS => ?_
          refine st_val hS rfl rfl (by decide) (r_ld1_k rfl ag_23 (hS.ev_ rfl) hq26 rfl (Rd.up hlK8 hM.nil_)) fun a hS => ?_
          refine st_val hS rfl rfl (by decide) (r_assign rfl (hS.ev_ rfl)) fun a hS => ?_
          refine st_done ?_
          replace hS : Slots 36 [] a [(5, v27), (11, Value.int .i64 (x9)), (10, Value.int .i64 ((p1.length : Int))), (9, v2), (3, Value.int .i64 (x10)), (2, Value.slice none 0 0), (0, v2)] := (hS.part (.cons rfl (.cons rfl (.cons rfl (.cons rfl (.cons rfl (.cons rfl (.cons rfl (.nil _)))))))))
          refine x_then ?_
          refine wp_seq ?_
          refine wp_region_lit ?_
          refine st_val hS rfl rfl (by decide) (r_move rfl (hS.ev_ rfl)) fun a hS => ?_
          refine st_val hS rfl rfl (by decide) (r_move rfl (hS.ev_ rfl)) fun a hS => ?_
          refine st_val hS rfl rfl (by decide) (r_len_sl rfl un_23 (hS.ev_ rfl) f28) fun a hS => ?_
          refine st_val hS rfl rfl (by decide) (r_add rfl (hS.ev_ rfl) (hS.ev_ rfl)) fun a hS => ?_
          refine st_val hS rfl rfl (by decide) (r_assign rfl (hS.ev_ rfl)) fun a hS => ?_
          refine st_done ?_
          replace hS : Slots 36 [] a [(3, Value.int .i64 (w64 (x10 + ((e17.length : Int))))), (11, Value.int .i64 (x9)), (10, Value.int .i64 ((p1.length : Int))), (9, v2), (2, Value.slice none 0 0), (0, v2)] := (hS.part (.cons rfl (.cons rfl (.cons rfl (.cons rfl (.cons rfl (.cons rfl (.nil _))))))))
          refine x_then ?_
          refine wp_seq ?_
          refine wp_region_lit ?_
          refine st_val hS rfl rfl (by decide) (r_move rfl (hS.ev_ rfl)) fun a hS => ?_
          refine st_val hS rfl rfl (by decide) (r_cmp rfl (hS.ev_ rfl) (hS.ev_ rfl) rfl) fun a hS => ?_
          refine st_done ?_
          replace hS : Slots 36 [] a [(20, Value.bool (decide ((w64 (x10 + ((e17.length : Int)))) < 0))), (3, Value.int .i64 (w64 (x10 + ((e17.length : Int))))), (11, Value.int .i64 (x9)), (10, Value.int .i64 ((p1.length : Int))), (9, v2), (2, Value.slice none 0 0), (0, v2)] := (hS.part (.cons rfl (.cons rfl (.cons rfl (.cons rfl (.cons rfl (.cons rfl (.cons rfl (.nil _)))))))))
          refine x_then ?_
          rcases ifB h16 with ⟨hc29, h16⟩ | ⟨hc29, h16⟩
          · refine c_cond_true (hS.ev_ rfl) hc29 ?_
            refine wp_region_lit ?_
            cases h16
          · refine c_cond_false (hS.ev_ rfl) hc29 ?_
            refine wp_skip ?_
            refine x_block ?_
            refine x_then ?_
            obtain rfl := Option.some.inj h16
            exact ⟨(hS.part (.cons rfl (.cons rfl (.cons rfl (.cons rfl (.cons rfl (.cons rfl (.nil _)))))))), hM⟩
        · rintro a w ⟨hS, hM⟩
          refine wp_region_lit ?_
          refine st_val hS rfl rfl (by decide) (r_add rfl (hS.ev_ rfl) (hS.ev_ rfl)) fun a hS => ?_
          refine st_val hS rfl rfl (by decide) (r_move rfl (hS.ev_ rfl)) fun a hS => ?_
          refine st_done ?_
          replace hS : Slots 36 [] a [(11, Value.int .i64 (w64 (x9 + 1))), (0, v2), (2, Value.slice none 0 0), (9, v2), (10, Value.int .i64 ((p1.length : Int))), (3, Value.int .i64 (x15))] := (hS.part (.cons rfl (.cons rfl (.cons rfl (.cons rfl (.cons rfl (.cons rfl (.nil _))))))))
          refine x_then ?_
          exact ih (w64 (x9 + 1)) x15 _ h hr K8 _ _ hlK8 (hS.part (.cons rfl (.cons rfl (.cons rfl (.cons rfl (.cons rfl (.cons rfl (.nil _)))))))) (hM)
      · refine c_cond_false (hS.ev_ rfl) hc14 ?_
        refine wp_exit ?_
        refine x_then_exit ?_
        refine x_then_exit ?_
        have ho' := (Option.some.inj h).trans hr
        refine hQ _ _ _ ?_
        subst ho'
        exact ⟨rfl, K8, hlK8, (hS.part (.cons rfl (.cons rfl (.cons rfl (.nil _))))), hM⟩
    exact key 0 0 _ h12 rfl K _ _ (Hp.le.refl _) (hS.part (.cons rfl (.cons rfl (.cons rfl (.cons rfl (.cons rfl (.cons rfl (.nil _)))))))) (hM)
  · rintro e a w ⟨rfl, K13, hlK13, hS, hM⟩
    refine x_block_here ?_
    refine x_then ?_
    refine wp_seq ?_
    refine wp_region_lit ?_
    refine st_val hS rfl rfl (by decide) (r_move rfl (hS.ev_ rfl)) fun a hS => ?_
    obtain ⟨y30, h31, h⟩ := bindO h
    have hc33 := slices_Grow_byte_byte_c hG h31 hM
    refine wl_cons rfl (e_call rfl Tryd.func35 rfl rfl (args2 (hS.ev_ rfl) (hS.ev_ rfl)) hc33 ?_)
    rintro _ w ⟨K32, v34, hlK32, hM, rfl⟩
    refine ⟨_, rfl, ?_⟩
    refine pl hS rfl (by decide) fun a hS => ?_
    refine st_val hS rfl rfl (by decide) (r_assign rfl (hS.ev_ rfl)) fun a hS => ?_
    refine st_done ?_
    replace hS : Slots 36 [] a [(6, v34), (0, v2), (2, Value.slice none 0 0)] := (hS.part (.cons rfl (.cons rfl (.cons rfl (.nil _)))))
    refine x_then ?_
    refine wp_seq ?_
    refine wp_seq ?_
    refine wp_region_lit ?_
    refine st_val hS rfl rfl (by decide) (r_move rfl (hS.ev_ rfl)) fun a hS => ?_
    refine st_val hS rfl rfl (by decide) (r_len_sl rfl un_59 (hS.ev_ rfl) f3) fun a hS => ?_
    refine st_val hS rfl rfl (by decide) (r_move rfl (hS.ev_ rfl)) fun a hS => ?_
    refine st_done ?_
    replace hS : Slots 36 [] a [(27, Value.int .i64 (0)), (26, Value.int .i64 ((p1.length : Int))), (25, v2), (6, v34), (2, Value.slice none 0 0)] := (hS.part (.cons rfl (.cons rfl (.cons rfl (.cons rfl (.cons rfl (.nil _)))))))
    refine x_then ?_
    refine wp_block ?_
    obtain ⟨o45, h46, h⟩ := bindO h
    refine c_loop_ways (fun e a w => (e = .exit 2 ∧ ∃ (K47 : Hp) (v48 : Value), Hp.le K32 K47 ∧ Slots 36 [] a [(2, Value.slice none 0 0), (6, v48)] ∧ Sat w0 w K47 (SP.row Kd.u8 5 v48 o45 :: L))) ?_ ?_
    · intro c Q hc hQ
      have key : ∀ (x42 : Int) (x43 : List UInt8) (r' : List UInt8), slices_Concat_byte_byte_l2 p1 x42 x43 = some r' → r' = o45 → ∀ (K41 : Hp) (v44 : Value) (a : Act) (w : World), Hp.le K32 K41 → Slots 36 [] a [(27, Value.int .i64 (x42)), (26, Value.int .i64 ((p1.length : Int))), (25, v2), (2, Value.slice none 0 0), (6, v44)] → Sat w0 w K41 (SP.row Kd.u8 5 v44 x43 :: L) → Rnd Tryd.prog c Q a w := by
        refine slices_Concat_byte_byte_l2.partial_correctness p1 _ ?_
        intro slices_Concat_byte_byte_l2_rec ih x42 x43 r' h hr K41 v44 a w hlK41 hS hM 
        subst hc
        refine c_round ?_
        refine wp_seq ?_
        refine wp_region_lit ?_
        refine st_val hS rfl rfl (by decide) (r_cmp rfl (hS.ev_ rfl) (hS.ev_ rfl) rfl) fun a hS => ?_
        refine st_done ?_
        replace hS : Slots 36 [] a [(28, Value.bool (decide (x42 < ((p1.length : Int))))), (27, Value.int .i64 (x42)), (26, Value.int .i64 ((p1.length : Int))), (25, v2), (2, Value.slice none 0 0), (6, v44)] := (hS.part (.cons rfl (.cons rfl (.cons rfl (.cons rfl (.cons rfl (.cons rfl (.nil _))))))))
        refine x_then ?_
        refine wp_seq ?_
        rcases ifB h with ⟨hc49, h⟩ | ⟨hc49, h⟩
        · refine c_cond_true (hS.ev_ rfl) hc49 ?_
          refine wp_skip ?_
          refine x_then ?_
          refine wp_seq ?_
          refine wp_block ?_
          refine wp_seq ?_
          refine wp_region_lit ?_
          obtain ⟨e50, h51, h⟩ := bindO h
          obtain ⟨ad52, cp53, cs54, hv55, hr56, h0_57, h1_58, hq59⟩ := sl_at f3 h51 (by decide)
          obtain ⟨v60, rfl, f61⟩ := hr56
          refine st_val hS rfl rfl (by decide) (r_idx_sl rfl un_59 ti_23 (hS.ev_ rfl) hv55 (hS.ev_ rfl) h0_57 h1_58) fun a hS => ?_
          refine st_val hS rfl rfl (by decide) (r_ld1_k rfl ag_23 (hS.ev_ rfl) hq59 rfl (Rd.up ((hlK13.trans hlK32).trans hlK41) hM.nil_)) fun a hS => ?_
          refine st_val hS rfl rfl (by decide) (r_assign rfl (hS.ev_ rfl)) fun a hS => ?_
          refine st_done ?_
          replace hS : Slots 36 [] a [(8, v60), (27, Value.int .i64 (x42)), (26, Value.int .i64 ((p1.length : Int))), (25, v2), (2, Value.slice none 0 0), (6, v44)] := (hS.part (.cons rfl (.cons rfl (.cons rfl (.cons rfl (.cons rfl (.cons rfl (.nil _))))))))
          refine x_then ?_
          refine wp_region_lit ?_
          refine st_val hS rfl rfl (by decide) (r_move rfl (hS.ev_ rfl)) fun a hS => ?_
          refine st_val hS rfl rfl (by decide) (r_move rfl (hS.ev_ rfl)) fun a hS => ?_
          obtain ⟨h62, h⟩ := bindU h
          refine wl_cons rfl (e_apd_sl hM rfl un_23 un_23 ti_5 rfl rfl (by decide) (hS.ev_ rfl) (hS.ev_ rfl) (Kd.sl_mono ((hlK13.trans hlK32).trans hlK41) f61) (req_some h62) fun v63 w hM => ?_)
          refine pl hS rfl (by decide) fun a hS => ?_
          refine st_val hS rfl rfl (by decide) (r_assign rfl (hS.ev_ rfl)) fun a hS => ?_
          refine st_done ?_
          replace hS : Slots 36 [] a [(6, v63), (27, Value.int .i64 (x42)), (26, Value.int .i64 ((p1.length : Int))), (25, v2), (2, Value.slice none 0 0)] := (hS.part (.cons rfl (.cons rfl (.cons rfl (.cons rfl (.cons rfl (.nil _)))))))
          refine x_block ?_
          refine x_then ?_
          refine wp_region_lit ?_
          refine st_val hS rfl rfl (by decide) (r_add rfl (hS.ev_ rfl) (hS.ev_ rfl)) fun a hS => ?_
          refine st_val hS rfl rfl (by decide) (r_move rfl (hS.ev_ rfl)) fun a hS => ?_
          refine st_done ?_
          replace hS : Slots 36 [] a [(27, Value.int .i64 (w64 (x42 + 1))), (6, v63), (26, Value.int .i64 ((p1.length : Int))), (25, v2), (2, Value.slice none 0 0)] := (hS.part (.cons rfl (.cons rfl (.cons rfl (.cons rfl (.cons rfl (.nil _)))))))
          refine x_then ?_
          exact ih (w64 (x42 + 1)) (x43 ++ e50) _ h hr K41 (v63) _ _ hlK41 (hS.part (.cons rfl (.cons rfl (.cons rfl (.cons rfl (.cons rfl (.nil _))))))) (hM)
        · refine c_cond_false (hS.ev_ rfl) hc49 ?_
          refine wp_exit ?_
          refine x_then_exit ?_
          refine x_then_exit ?_
          have ho' := (Option.some.inj h).trans hr
          refine hQ _ _ _ ?_
          subst ho'
          exact ⟨rfl, K41, (v44), hlK41, (hS.part (.cons rfl (.cons rfl (.nil _)))), hM⟩
      exact key 0 y30 _ h46 rfl K32 (v34) _ _ (Hp.le.refl _) (hS.part (.cons rfl (.cons rfl (.cons rfl (.cons rfl (.cons rfl (.nil _))))))) (hM)
    · rintro e a w ⟨rfl, K47, v48, hlK47, hS, hM⟩
      refine x_block_here ?_
      refine x_then ?_
      refine wp_seq ?_
      refine wp_region_lit ?_
      refine st_val hS rfl rfl (by decide) (r_move rfl (hS.ev_ rfl)) fun a hS => ?_
      refine st_val hS rfl rfl (by decide) (r_assign rfl (hS.ev_ rfl)) fun a hS => ?_
      refine st_done ?_
      replace hS : Slots 36 [] a [(2, v48)] := (hS.part (.cons rfl (.nil _)))
      refine x_then ?_
      refine wp_ret ?_
      obtain ⟨K64, hlK64, hM, f65⟩ := keep_row hM
      have hr' := Option.some.inj h
      subst hr'
      refine ret1 (.inr rfl) hS rfl rfl ?_
      exact ⟨K64, (v48), (((hlK13.trans hlK32).trans hlK47).trans hlK64), hM, rfl, f65⟩

theorem emit_Sub_c {w0 w : World} {K : Hp} {L : List SP} {p1 : Int} {p2 : List UInt8} {v3 : Value} {r : (List UInt8) × (Option Nat)} (hG : Glob w0) (h : emit_Sub p1 p2 = some r) (f4 : Kd.u8.sl K v3 p2) (hM : Sat w0 w K (L)) :
    Calls Tryd.prog 22 #[Value.int .i64 (p1), v3] w (fun e w' => ∃ (K' : Hp) (v'1 : Value), Hp.le K K' ∧ Sat w0 w' K' (L) ∧ e = .returned (Value.tuple #[v'1, eV w0 r.2]) ∧ Kd.u8.sl K' v'1 r.1) := by
  refine enter_ (n := 24) (args := [Value.int .i64 (p1), v3]) Tryd.func22 rfl rfl (Nat.le_of_ble_eq_true rfl) fun a hS => ?_
  replace hS : Slots 24 [] a [(0, Value.int .i64 (p1)), (1, v3)] := hS
  unfold emit_Sub at h
  refine wp_seq ?_
  refine wp_region_lit ?_
  refine st_val hS rfl rfl (by decide) (r_assign rfl (hS.ev_ rfl)) fun a hS => ?_
  refine st_val hS rfl rfl (by decide) (r_assign rfl (hS.ev_ rfl)) fun a hS => ?_
  refine st_done ?_
  replace hS : Slots 24 [] a [(5, eV w0 ((none : Option Nat))), (4, Value.slice none 0 0), (0, Value.int .i64 (p1)), (1, v3)] := (hS.part (.cons rfl (.cons rfl (.cons rfl (.cons rfl (.nil _))))))
  refine x_then ?_
  refine wp_seq ?_
  refine wp_block ?_
  refine wp_seq ?_
  refine wp_region_lit ?_
  refine st_val hS rfl rfl (by decide) (r_move rfl (hS.ev_ rfl)) fun a hS => ?_
  obtain ⟨y5, h6, h⟩ := bindO h
  have hc8 := emit_byteable_c hG h6 hM
  refine wl_cons rfl (e_call rfl Tryd.func15 rfl rfl (args1 (hS.ev_ rfl)) hc8 ?_)
  rintro _ w ⟨K7, hlK7, hM, rfl⟩
  refine ⟨_, rfl, ?_⟩
  refine pl hS rfl (by decide) fun a hS => ?_
  refine st_val hS rfl rfl (by decide) (r_not rfl (hS.ev_ rfl)) fun a hS => ?_
  refine st_val hS rfl rfl (by decide) (r_assign rfl (hS.ev_ rfl)) fun a hS => ?_
  refine st_done ?_
  replace hS : Slots 24 [] a [(6, Value.bool (!y5)), (5, eV w0 ((none : Option Nat))), (4, Value.slice none 0 0), (0, Value.int .i64 (p1)), (1, v3)] := (hS.part (.cons rfl (.cons rfl (.cons rfl (.cons rfl (.cons rfl (.nil _)))))))
  refine x_then ?_
  rcases ifB h with ⟨hc9, h⟩ | ⟨hc9, h⟩
  · refine c_cond_true (hS.ev_ rfl) hc9 ?_
    refine wp_seq ?_
    refine tk_start #[false, false, false] mixed_ rfl rfl ?_
    replace hM := hM.drew
    generalize w.drew = w at hM ⊢
    refine dk_val (i := 0) (S := Rd w0 K7 []) #[true, false, false] hS rfl (by kernel_rfl) rfl rfl (by decide) (Rd.up (Hp.le.refl _) hM.nil_) (fun w hR => r_ldG rfl ag_32 (hS.ev_ rfl) (hG 1 (by decide)) hR) fun a hS => ?_
    refine dk_any (i := 1) #[true, true, false] hS rfl (by kernel_rfl) rfl rfl (by decide) (fun w => r_assign rfl (hS.ev_ rfl)) fun a hS => ?_
    refine dk_any (i := 2) #[true, true, true] hS rfl (by kernel_rfl) rfl rfl (by decide) (fun w => r_assign rfl (hS.ev_ rfl)) fun a hS => ?_
    refine tk_done (by kernel_rfl) ?_
    replace hS : Slots 24 [] a [(5, eV w0 ((some 1 : Option Nat))), (4, Value.slice none 0 0), (0, Value.int .i64 (p1)), (1, v3)] := (hS.part (.cons rfl (.cons rfl (.cons rfl (.cons rfl (.nil _))))))
    refine x_then ?_
    refine wp_ret ?_
    refine x_block_ret ?_
    refine x_then_ret ?_
    have hr' := Option.some.inj h
    subst hr'
    refine ret2 (.inr rfl) hS rfl rfl rfl ?_
    exact ⟨K7, (Value.slice none 0 0), hlK7, hM, rfl, (Kd.sl_nil _ _)⟩
  · refine c_cond_false (hS.ev_ rfl) hc9 ?_
    refine wp_seq ?_
    refine wp_region_lit ?_
    refine st_val hS rfl rfl (by decide) (r_move rfl (hS.ev_ rfl)) fun a hS => ?_
    refine st_val hS rfl rfl (by decide) (r_len_sl rfl un_23 (hS.ev_ rfl) f4) fun a hS => ?_
    refine st_val hS rfl rfl (by decide) (r_cmp rfl (hS.ev_ rfl) (hS.ev_ rfl) rfl) fun a hS => ?_
    refine st_val hS rfl rfl (by decide) (r_assign rfl (hS.ev_ rfl)) fun a hS => ?_
    refine st_done ?_
    replace hS : Slots 24 [] a [(11, Value.bool (decide (((p2.length : Int)) > 256))), (5, eV w0 ((none : Option Nat))), (4, Value.slice none 0 0), (0, Value.int .i64 (p1)), (1, v3)] := (hS.part (.cons rfl (.cons rfl (.cons rfl (.cons rfl (.cons rfl (.nil _)))))))
    refine x_then ?_
    rcases ifB h with ⟨hc10, h⟩ | ⟨hc10, h⟩
    · refine c_cond_true (hS.ev_ rfl) hc10 ?_
      refine wp_seq ?_
      refine tk_start #[false, false, false] mixed_ rfl rfl ?_
      replace hM := hM.drew
      generalize w.drew = w at hM ⊢
      refine dk_val (i := 0) (S := Rd w0 K7 []) #[true, false, false] hS rfl (by kernel_rfl) rfl rfl (by decide) (Rd.up (Hp.le.refl _) hM.nil_) (fun w hR => r_ldG rfl ag_32 (hS.ev_ rfl) (hG 2 (by decide)) hR) fun a hS => ?_
      refine dk_any (i := 1) #[true, true, false] hS rfl (by kernel_rfl) rfl rfl (by decide) (fun w => r_assign rfl (hS.ev_ rfl)) fun a hS => ?_
      refine dk_any (i := 2) #[true, true, true] hS rfl (by kernel_rfl) rfl rfl (by decide) (fun w => r_assign rfl (hS.ev_ rfl)) fun a hS => ?_
      refine tk_done (by kernel_rfl) ?_
      replace hS : Slots 24 [] a [(5, eV w0 ((some 2 : Option Nat))), (4, Value.slice none 0 0), (0, Value.int .i64 (p1)), (1, v3)] := (hS.part (.cons rfl (.cons rfl (.cons rfl (.cons rfl (.nil _))))))
      refine x_then ?_
      refine wp_ret ?_
      refine x_block_ret ?_
      refine x_then_ret ?_
      have hr' := Option.some.inj h
      subst hr'
      refine ret2 (.inr rfl) hS rfl rfl rfl ?_
      exact ⟨K7, (Value.slice none 0 0), hlK7, hM, rfl, (Kd.sl_nil _ _)⟩
    · refine c_cond_false (hS.ev_ rfl) hc10 ?_
      refine wp_skip ?_
      refine x_block ?_
      refine x_then ?_
      refine wp_seq ?_
      refine wp_region_lit ?_
      refine st_val hS rfl rfl (by decide) (r_move rfl (hS.ev_ rfl)) fun a hS => ?_
      refine st_val hS rfl rfl (by decide) (r_conv_i8 rfl un_3 un_5 (hS.ev_ rfl)) fun a hS => ?_
      refine wl_cons rfl (e_litK (d := Kd.u8) (e := 5) (cs := [Value.int .u8 (b8 (255)), Value.int .u8 (b8 (250)), Value.int .u8 (b8 (toB p1))]) (xs := [255, 250, toB p1]) hM rfl (parts_ev hS rfl) (by kernel_rfl) ⟨[Value.int .u8 (b8 (255))], [Value.int .u8 (b8 (250)), Value.int .u8 (b8 (toB p1))], rfl, rfl, ⟨[Value.int .u8 (b8 (250))], [Value.int .u8 (b8 (toB p1))], rfl, rfl, ⟨[Value.int .u8 (b8 (toB p1))], [], rfl, rfl, rfl⟩⟩⟩ rfl (by decide) fun v11 K12 w hlK12 hM f13 => ?_)
      refine pl hS rfl (by decide) fun a hS => ?_
      refine st_val hS rfl rfl (by decide) (r_move rfl (hS.ev_ rfl)) fun a hS => ?_
      obtain ⟨y14, h15, h⟩ := bindO h
      have hc17 := emit_Data_c hG h15 (Kd.sl_mono (hlK7.trans hlK12) f4) hM
      refine wl_cons rfl (e_call rfl Tryd.func8 rfl rfl (args1 (hS.ev_ rfl)) hc17 ?_)
      rintro _ w ⟨K16, v18, hlK16, hM, rfl, f19⟩
      refine ⟨_, rfl, ?_⟩
      refine pl hS rfl (by decide) fun a hS => ?_
      refine wl_cons rfl (e_litK (d := Kd.u8) (e := 5) (cs := [Value.int .u8 (b8 (255)), Value.int .u8 (b8 (240))]) (xs := [255, 240]) hM rfl (parts_ev hS rfl) (by kernel_rfl) ⟨[Value.int .u8 (b8 (255))], [Value.int .u8 (b8 (240))], rfl, rfl, ⟨[Value.int .u8 (b8 (240))], [], rfl, rfl, rfl⟩⟩ rfl (by decide) fun v20 K21 w hlK21 hM f22 => ?_)
      refine pl hS rfl (by decide) fun a hS => ?_
      refine wl_cons rfl (e_litK (d := (Kd.slice Kd.u8)) (e := 23) (cs := [v11, v18, v20]) (xs := [[255, 250, toB p1], y14, [255, 240]]) hM rfl (parts_ev hS rfl) (by obtain ⟨_, _, hvv, _⟩ := sl_val f13; rw [hvv]; clear hvv; obtain ⟨_, _, hvv, _⟩ := sl_val f19; rw [hvv]; clear hvv; obtain ⟨_, _, hvv, _⟩ := sl_val f22; rw [hvv]; clear hvv; kernel_rfl) ⟨[v11], [v18, v20], rfl, ⟨_, rfl, (Kd.sl_mono (hlK16.trans hlK21) f13)⟩, ⟨[v18], [v20], rfl, ⟨_, rfl, (Kd.sl_mono hlK21 f19)⟩, ⟨[v20], [], rfl, ⟨_, rfl, f22⟩, rfl⟩⟩⟩ rfl (by decide) fun v23 K24 w hlK24 hM f25 => ?_)
      refine pl hS rfl (by decide) fun a hS => ?_
      obtain ⟨y26, h27, h⟩ := bindO h
      have hc29 := slices_Concat_byte_byte_c hG h27 f25 hM
      refine wl_cons rfl (e_call rfl Tryd.func27 rfl rfl (args1 (hS.ev_ rfl)) hc29 ?_)
      rintro _ w ⟨K28, v30, hlK28, hM, rfl, f31⟩
      refine ⟨_, rfl, ?_⟩
      refine pl hS rfl (by decide) fun a hS => ?_
      refine st_val hS rfl rfl (by decide) (r_assign rfl (hS.ev_ rfl)) fun a hS => ?_
      refine st_val hS rfl rfl (by decide) (r_assign rfl (hS.ev_ rfl)) fun a hS => ?_
      refine st_done ?_
      replace hS : Slots 24 [] a [(5, eV w0 ((none : Option Nat))), (4, v30)] := (hS.part (.cons rfl (.cons rfl (.nil _))))
      refine x_then ?_
      refine wp_ret ?_
      have hr' := Option.some.inj h
      subst hr'
      refine ret2 (.inr rfl) hS rfl rfl rfl ?_
      exact ⟨K28, (v30), (((((hlK7.trans hlK12).trans hlK16).trans hlK21).trans hlK24).trans hlK28), hM, rfl, f31⟩

theorem emit_Token_c {w0 w : World} {K : Hp} {L : List SP} {p1 : iac_Token} {v2 : Value} {r : (List UInt8) × (Option Nat)} (hG : Glob w0) (h : emit_Token p1 = some r) (f3 : Kd.u8.sl K v2 p1.f_Body) (hM : Sat w0 w K (L)) :
    Calls Tryd.prog 18 #[Value.agg #[Value.int .i64 (p1.f_Kind), Value.int .i64 (p1.f_Code), Value.int .i64 (p1.f_Option), v2, Value.bool (p1.f_Cut)]] w (fun e w' => ∃ (K' : Hp) (v'1 : Value), Hp.le K K' ∧ Sat w0 w' K' (L) ∧ e = .returned (Value.tuple #[v'1, eV w0 r.2]) ∧ Kd.u8.sl K' v'1 r.1) := by
  refine enter_ (n := 56) (args := [Value.agg #[Value.int .i64 (p1.f_Kind), Value.int .i64 (p1.f_Code), Value.int .i64 (p1.f_Option), v2, Value.bool (p1.f_Cut)]]) Tryd.func18 rfl rfl (Nat.le_of_ble_eq_true rfl) fun a hS => ?_
  replace hS : Slots 56 [] a [(0, Value.agg #[Value.int .i64 (p1.f_Kind), Value.int .i64 (p1.f_Code), Value.int .i64 (p1.f_Option), v2, Value.bool (p1.f_Cut)])] := hS
  unfold emit_Token at h
  refine wp_seq ?_
  refine wp_region_lit ?_
  refine wl_cons rfl (e_box (cs := [Value.int .i64 (p1.f_Kind), Value.int .i64 (p1.f_Code), Value.int .i64 (p1.f_Option), v2, Value.bool (p1.f_Cut)]) hM rfl (hS.ev_ rfl) rfl fun g4 w hM => ?_)
  refine pl hS rfl (by decide) fun a hS => ?_
  refine st_val hS rfl rfl (by decide) (r_assign rfl (hS.ev_ rfl)) fun a hS => ?_
  refine st_val hS rfl rfl (by decide) (r_assign rfl (hS.ev_ rfl)) fun a hS => ?_
  refine st_done ?_
  replace hS : Slots 56 [] a [(3, eV w0 ((none : Option Nat))), (2, Value.slice none 0 0), (1, Value.pointer (some ⟨g4, 0, none⟩))] := (hS.part (.cons rfl (.cons rfl (.cons rfl (.nil _)))))
  refine x_then ?_
  refine wp_seq ?_
  refine wp_seq ?_
  refine wp_region_lit ?_
  refine st_val hS rfl rfl (by decide) (r_fld_b rfl fo_26_0 (hS.ev_ rfl)) fun a hS => ?_
  refine st_val hS rfl rfl (by decide) (r_ld1_b rfl ag_3 (hS.ev_ rfl) rfl (Rd.of hM)) fun a hS => ?_
  refine st_done ?_
  replace hS : Slots 56 [] a [(7, Value.int .i64 (p1.f_Kind)), (3, eV w0 ((none : Option Nat))), (2, Value.slice none 0 0), (1, Value.pointer (some ⟨g4, 0, none⟩))] := (hS.part (.cons rfl (.cons rfl (.cons rfl (.cons rfl (.nil _))))))
  refine x_then ?_
  refine wp_block ?_
  refine wp_seq ?_
  refine wp_region_lit ?_
  refine st_val hS rfl rfl (by decide) (r_cmp rfl (hS.ev_ rfl) (hS.ev_ rfl) rfl) fun a hS => ?_
  refine st_val hS rfl rfl (by decide) (r_assign rfl (hS.ev_ rfl)) fun a hS => ?_
  refine st_done ?_
  replace hS : Slots 56 [] a [(8, Value.bool (p1.f_Kind == 1)), (7, Value.int .i64 (p1.f_Kind)), (3, eV w0 ((none : Option Nat))), (2, Value.slice none 0 0), (1, Value.pointer (some ⟨g4, 0, none⟩))] := (hS.part (.cons rfl (.cons rfl (.cons rfl (.cons rfl (.cons rfl (.nil _)))))))
  refine x_then ?_
  rcases ifB h with ⟨hc6, h⟩ | ⟨hc6, h⟩
  · refine c_cond_true (hS.ev_ rfl) hc6 ?_
    refine wp_seq ?_
    refine wp_seq ?_
    refine wp_region_lit ?_
    refine st_val hS rfl rfl (by decide) (r_fld_b rfl fo_26_1 (hS.ev_ rfl)) fun a hS => ?_
    refine st_val hS rfl rfl (by decide) (r_ld1_b rfl ag_3 (hS.ev_ rfl) rfl (Rd.of hM)) fun a hS => ?_
    obtain ⟨y7, h8, h⟩ := bindO h
    have hc10 := emit_byteable_c hG h8 hM
    refine wl_cons rfl (e_call rfl Tryd.func15 rfl rfl (args1 (hS.ev_ rfl)) hc10 ?_)
    rintro _ w ⟨K9, hlK9, hM, rfl⟩
    refine ⟨_, rfl, ?_⟩
    refine pl hS rfl (by decide) fun a hS => ?_
    refine st_val hS rfl rfl (by decide) (r_not rfl (hS.ev_ rfl)) fun a hS => ?_
    refine st_done ?_
    replace hS : Slots 56 [] a [(13, Value.bool (!y7)), (3, eV w0 ((none : Option Nat))), (2, Value.slice none 0 0), (1, Value.pointer (some ⟨g4, 0, none⟩))] := (hS.part (.cons rfl (.cons rfl (.cons rfl (.cons rfl (.nil _))))))
    refine x_then ?_
    rcases ifB h with ⟨hc11, h⟩ | ⟨hc11, h⟩
    · refine c_cond_true (hS.ev_ rfl) hc11 ?_
      refine wp_seq ?_
      refine tk_start #[false, false, false] mixed_ rfl rfl ?_
      replace hM := hM.drew
      generalize w.drew = w at hM ⊢
      refine dk_val (i := 0) (S := Rd w0 K9 []) #[true, false, false] hS rfl (by kernel_rfl) rfl rfl (by decide) (Rd.up (Hp.le.refl _) hM.nil_) (fun w hR => r_ldG rfl ag_32 (hS.ev_ rfl) (hG 1 (by decide)) hR) fun a hS => ?_
      refine dk_any (i := 1) #[true, true, false] hS rfl (by kernel_rfl) rfl rfl (by decide) (fun w => r_assign rfl (hS.ev_ rfl)) fun a hS => ?_
      refine dk_any (i := 2) #[true, true, true] hS rfl (by kernel_rfl) rfl rfl (by decide) (fun w => r_assign rfl (hS.ev_ rfl)) fun a hS => ?_
      refine tk_done (by kernel_rfl) ?_
      replace hS : Slots 56 [] a [(3, eV w0 ((some 1 : Option Nat))), (2, Value.slice none 0 0), (1, Value.pointer (some ⟨g4, 0, none⟩))] := (hS.part (.cons rfl (.cons rfl (.cons rfl (.nil _)))))
      refine x_then ?_
      refine wp_ret ?_
      refine x_then_ret ?_
      refine x_block_ret ?_
      refine x_then_ret ?_
      have hr' := Option.some.inj h
      subst hr'
      refine ret2 (.inr rfl) hS rfl rfl rfl ?_
      exact ⟨K9, (Value.slice none 0 0), hlK9, (hM).tail, rfl, (Kd.sl_nil _ _)⟩
    · refine c_cond_false (hS.ev_ rfl) hc11 ?_
      refine wp_skip ?_
      refine x_then ?_
      refine wp_seq ?_
      refine wp_region_lit ?_
      refine st_val hS rfl rfl (by decide) (r_fld_b rfl fo_26_1 (hS.ev_ rfl)) fun a hS => ?_
      refine st_val hS rfl rfl (by decide) (r_ld1_b rfl ag_3 (hS.ev_ rfl) rfl (Rd.of hM)) fun a hS => ?_
      refine st_val hS rfl rfl (by decide) (r_conv_i8 rfl un_3 un_5 (hS.ev_ rfl)) fun a hS => ?_
      refine wl_cons rfl (e_litK (d := Kd.u8) (e := 5) (cs := [Value.int .u8 (b8 (toB p1.f_Code))]) (xs := ([toB p1.f_Code] : List UInt8)) hM rfl (parts_ev hS rfl) (by kernel_rfl) ⟨[Value.int .u8 (b8 (toB p1.f_Code))], [], rfl, rfl, rfl⟩ rfl (by decide) fun v12 K13 w hlK13 hM f14 => ?_)
      refine pl hS rfl (by decide) fun a hS => ?_
      obtain ⟨y15, h16, h⟩ := bindO h
      have hc18 := emit_Data_c hG h16 f14 hM
      refine wl_cons rfl (e_call rfl Tryd.func8 rfl rfl (args1 (hS.ev_ rfl)) hc18 ?_)
      rintro _ w ⟨K17, v19, hlK17, hM, rfl, f20⟩
      refine ⟨_, rfl, ?_⟩
      refine pl hS rfl (by decide) fun a hS => ?_
      refine st_val hS rfl rfl (by decide) (r_assign rfl (hS.ev_ rfl)) fun a hS => ?_
      refine st_val hS rfl rfl (by decide) (r_assign rfl (hS.ev_ rfl)) fun a hS => ?_
      refine st_done ?_
      replace hS : Slots 56 [] a [(3, eV w0 ((none : Option Nat))), (2, v19)] := (hS.part (.cons rfl (.cons rfl (.nil _))))
      refine x_then ?_
      refine wp_ret ?_
      refine x_block_ret ?_
      refine x_then_ret ?_
      have hr' := Option.some.inj h
      subst hr'
      refine ret2 (.inr rfl) hS rfl rfl rfl ?_
      exact ⟨K17, (v19), ((hlK9.trans hlK13).trans hlK17), (hM).tail, rfl, f20⟩
  · refine c_cond_false (hS.ev_ rfl) hc6 ?_
    refine wp_seq ?_
    refine wp_region_lit ?_
    refine st_val hS rfl rfl (by decide) (r_cmp rfl (hS.ev_ rfl) (hS.ev_ rfl) rfl) fun a hS => ?_
    refine st_val hS rfl rfl (by decide) (r_assign rfl (hS.ev_ rfl)) fun a hS => ?_
    refine st_done ?_
    replace hS : Slots 56 [] a [(20, Value.bool (p1.f_Kind == 2)), (7, Value.int .i64 (p1.f_Kind)), (3, eV w0 ((none : Option Nat))), (2, Value.slice none 0 0), (1, Value.pointer (some ⟨g4, 0, none⟩))] := (hS.part (.cons rfl (.cons rfl (.cons rfl (.cons rfl (.cons rfl (.nil _)))))))
    refine x_then ?_
    rcases ifB h with ⟨hc21, h⟩ | ⟨hc21, h⟩
    · refine c_cond_true (hS.ev_ rfl) hc21 ?_
      refine wp_seq ?_
      refine wp_region_lit ?_
      refine st_val hS rfl rfl (by decide) (r_fld_b rfl fo_26_1 (hS.ev_ rfl)) fun a hS => ?_
      refine st_val hS rfl rfl (by decide) (r_ld1_b rfl ag_3 (hS.ev_ rfl) rfl (Rd.of hM)) fun a hS => ?_
      obtain ⟨y22, h23, h⟩ := bindO h
      have hc25 := emit_Plain_c hG h23 hM
      refine wl_cons rfl (e_call rfl Tryd.func21 rfl rfl (args1 (hS.ev_ rfl)) hc25 ?_)
      rintro _ w ⟨K24, v26, hlK24, hM, rfl, f27⟩
      refine ⟨_, rfl, ?_⟩
      refine pl hS rfl (by decide) fun a hS => ?_
      refine st_val hS rfl rfl (by decide) (r_extract rfl (hS.ev_ rfl) rfl) fun a hS => ?_
      refine st_val hS rfl rfl (by decide) (r_extract rfl (hS.ev_ rfl) rfl) fun a hS => ?_
      refine st_val hS rfl rfl (by decide) (r_assign rfl (hS.ev_ rfl)) fun a hS => ?_
      refine st_val hS rfl rfl (by decide) (r_assign rfl (hS.ev_ rfl)) fun a hS => ?_
      refine st_done ?_
      replace hS : Slots 56 [] a [(3, eV w0 y22.2), (2, v26)] := (hS.part (.cons rfl (.cons rfl (.nil _))))
      refine x_then ?_
      refine wp_ret ?_
      refine x_block_ret ?_
      refine x_then_ret ?_
      have hr' := Option.some.inj h
      subst hr'
      refine ret2 (.inr rfl) hS rfl rfl rfl ?_
      exact ⟨K24, (v26), hlK24, (hM).tail, rfl, f27⟩
    · refine c_cond_false (hS.ev_ rfl) hc21 ?_
      refine wp_seq ?_
      refine wp_region_lit ?_
      refine st_val hS rfl rfl (by decide) (r_cmp rfl (hS.ev_ rfl) (hS.ev_ rfl) rfl) fun a hS => ?_
      refine st_val hS rfl rfl (by decide) (r_assign rfl (hS.ev_ rfl)) fun a hS => ?_
      refine st_done ?_
      replace hS : Slots 56 [] a [(27, Value.bool (p1.f_Kind == 3)), (7, Value.int .i64 (p1.f_Kind)), (3, eV w0 ((none : Option Nat))), (2, Value.slice none 0 0), (1, Value.pointer (some ⟨g4, 0, none⟩))] := (hS.part (.cons rfl (.cons rfl (.cons rfl (.cons rfl (.cons rfl (.nil _)))))))
      refine x_then ?_
      rcases ifB h with ⟨hc28, h⟩ | ⟨hc28, h⟩
      · refine c_cond_true (hS.ev_ rfl) hc28 ?_
        refine wp_seq ?_
        refine wp_region_lit ?_
        refine st_val hS rfl rfl (by decide) (r_fld_b rfl fo_26_1 (hS.ev_ rfl)) fun a hS => ?_
        refine st_val hS rfl rfl (by decide) (r_ld1_b rfl ag_3 (hS.ev_ rfl) rfl (Rd.of hM)) fun a hS => ?_
        refine st_val hS rfl rfl (by decide) (r_fld_b rfl fo_26_2 (hS.ev_ rfl)) fun a hS => ?_
        refine st_val hS rfl rfl (by decide) (r_ld1_b rfl ag_3 (hS.ev_ rfl) rfl (Rd.of hM)) fun a hS => ?_
        obtain ⟨y29, h30, h⟩ := bindO h
        have hc32 := emit_Verb_c hG h30 hM
        refine wl_cons rfl (e_call rfl Tryd.func7 rfl rfl (args2 (hS.ev_ rfl) (hS.ev_ rfl)) hc32 ?_)
        rintro _ w ⟨K31, v33, hlK31, hM, rfl, f34⟩
        refine ⟨_, rfl, ?_⟩
        refine pl hS rfl (by decide) fun a hS => ?_
        refine st_val hS rfl rfl (by decide) (r_extract rfl (hS.ev_ rfl) rfl) fun a hS => ?_
        refine st_val hS rfl rfl (by decide) (r_extract rfl (hS.ev_ rfl) rfl) fun a hS => ?_
        refine st_val hS rfl rfl (by decide) (r_assign rfl (hS.ev_ rfl)) fun a hS => ?_
        refine st_val hS rfl rfl (by decide) (r_assign rfl (hS.ev_ rfl)) fun a hS => ?_
        refine st_done ?_
        replace hS : Slots 56 [] a [(3, eV w0 y29.2), (2, v33)] := (hS.part (.cons rfl (.cons rfl (.nil _))))
        refine x_then ?_
        refine wp_ret ?_
        refine x_block_ret ?_
        refine x_then_ret ?_
        have hr' := Option.some.inj h
        subst hr'
        refine ret2 (.inr rfl) hS rfl rfl rfl ?_
        exact ⟨K31, (v33), hlK31, (hM).tail, rfl, f34⟩
      · refine c_cond_false (hS.ev_ rfl) hc28 ?_
        refine wp_seq ?_
        refine wp_region_lit ?_
        refine st_val hS rfl rfl (by decide) (r_cmp rfl (hS.ev_ rfl) (hS.ev_ rfl) rfl) fun a hS => ?_
        refine st_val hS rfl rfl (by decide) (r_assign rfl (hS.ev_ rfl)) fun a hS => ?_
        refine st_done ?_
        replace hS : Slots 56 [] a [(36, Value.bool (p1.f_Kind == 4)), (3, eV w0 ((none : Option Nat))), (2, Value.slice none 0 0), (1, Value.pointer (some ⟨g4, 0, none⟩))] := (hS.part (.cons rfl (.cons rfl (.cons rfl (.cons rfl (.nil _))))))
        refine x_then ?_
        rcases ifB h with ⟨hc35, h⟩ | ⟨hc35, h⟩
        · refine c_cond_true (hS.ev_ rfl) hc35 ?_
          refine wp_seq ?_
          refine wp_region_lit ?_
          refine st_val hS rfl rfl (by decide) (r_fld_b rfl fo_26_2 (hS.ev_ rfl)) fun a hS => ?_
          refine st_val hS rfl rfl (by decide) (r_ld1_b rfl ag_3 (hS.ev_ rfl) rfl (Rd.of hM)) fun a hS => ?_
          refine st_val hS rfl rfl (by decide) (r_fld_b rfl fo_26_3 (hS.ev_ rfl)) fun a hS => ?_
          refine st_val hS rfl rfl (by decide) (r_ld1_b rfl ag_23 (hS.ev_ rfl) rfl (Rd.of hM)) fun a hS => ?_
          obtain ⟨y36, h37, h⟩ := bindO h
          have hc39 := emit_Sub_c hG h37 f3 hM
          refine wl_cons rfl (e_call rfl Tryd.func22 rfl rfl (args2 (hS.ev_ rfl) (hS.ev_ rfl)) hc39 ?_)
          rintro _ w ⟨K38, v40, hlK38, hM, rfl, f41⟩
          refine ⟨_, rfl, ?_⟩
          refine pl hS rfl (by decide) fun a hS => ?_
          refine st_val hS rfl rfl (by decide) (r_move rfl (hS.ev_ rfl)) fun a hS => ?_
          refine st_val hS rfl rfl (by decide) (r_extract rfl (hS.ev_ rfl) rfl) fun a hS => ?_
          refine st_val hS rfl rfl (by decide) (r_extract rfl (hS.ev_ rfl) rfl) fun a hS => ?_
          refine st_val hS rfl rfl (by decide) (r_assign rfl (hS.ev_ rfl)) fun a hS => ?_
          refine st_val hS rfl rfl (by decide) (r_assign rfl (hS.ev_ rfl)) fun a hS => ?_
          refine st_done ?_
          replace hS : Slots 56 [] a [(5, eV w0 y36.2), (4, v40), (3, eV w0 ((none : Option Nat))), (2, Value.slice none 0 0), (1, Value.pointer (some ⟨g4, 0, none⟩))] := (hS.part (.cons rfl (.cons rfl (.cons rfl (.cons rfl (.cons rfl (.nil _)))))))
          refine x_then ?_
          refine wp_seq ?_
          refine wp_seq ?_
          refine wp_region_lit ?_
          refine st_val hS rfl rfl (by decide) (r_move rfl (hS.ev_ rfl)) fun a hS => ?_
          refine st_val hS rfl rfl (by decide) (r_errnil rfl if_32 (hS.ev_ (v := eV w0 y36.2) rfl)) fun a hS => ?_
          refine st_val hS rfl rfl (by decide) (r_move rfl (hS.ev_ rfl)) fun a hS => ?_
          obtain ⟨x42, h43, h⟩ := bindO h
          refine wl_cut 3 (fun a w => Slots 56 [] a [(2, Value.slice none 0 0), (3, eV w0 ((none : Option Nat))), (4, v40), (5, eV w0 y36.2), (51, Value.bool (x42))] ∧ Sat w0 w K38 (SP.blk g4 26 [Value.int .i64 (p1.f_Kind), Value.int .i64 (p1.f_Code), Value.int .i64 (p1.f_Option), v2, Value.bool (p1.f_Cut)] :: L)) ?_ ?_
          ·
            skip
            rcases ifB h43 with ⟨hc44, h43⟩ | ⟨hc44, h43⟩
            ·
              replace hS := hS.known (k := 48) rfl hc44
              refine st_want hS rfl rfl rfl rfl rfl (by decide) (r_fld_b rfl fo_26_4 (hS.ev_ rfl)) fun a hS => ?_
              refine st_want hS rfl rfl rfl rfl rfl (by decide) (r_ld1_b rfl ag_4 (hS.ev_ rfl) rfl (Rd.of hM)) fun a hS => ?_
              refine st_val hS rfl rfl (by decide) (r_pick_true rfl (hS.ev_ rfl) rfl (hS.ev_ rfl)) fun a hS => ?_
              refine st_done ?_
              replace hS : Slots 56 [] a [(51, Value.bool (p1.f_Cut)), (5, eV w0 y36.2), (4, v40), (3, eV w0 ((none : Option Nat))), (2, Value.slice none 0 0)] := (hS.part (.cons rfl (.cons rfl (.cons rfl (.cons rfl (.cons rfl (.nil _)))))))
              refine x_then ?_
              obtain rfl := Option.some.inj h43
              exact ⟨(hS.part (.cons rfl (.cons rfl (.cons rfl (.cons rfl (.cons rfl (.nil _))))))), hM⟩
            ·
              replace hS := hS.known (k := 48) rfl hc44
              refine st_off hS rfl rfl rfl rfl rfl rfl (by decide) fun a hS => ?_
              refine st_off hS rfl rfl rfl rfl rfl rfl (by decide) fun a hS => ?_
              refine st_val hS rfl rfl (by decide) (r_pick_false rfl (hS.ev_ rfl) rfl (hS.ev_ rfl)) fun a hS => ?_
              refine st_done ?_
              replace hS : Slots 56 [] a [(51, Value.bool (false)), (5, eV w0 y36.2), (4, v40), (3, eV w0 ((none : Option Nat))), (2, Value.slice none 0 0)] := (hS.part (.cons rfl (.cons rfl (.cons rfl (.cons rfl (.cons rfl (.nil _)))))))
              refine x_then ?_
              obtain rfl := Option.some.inj h43
              exact ⟨(hS.part (.cons rfl (.cons rfl (.cons rfl (.cons rfl (.cons rfl (.nil _))))))), hM⟩
          · rintro a w ⟨hS, hM⟩
            refine st_done ?_
            replace hS : Slots 56 [] a [(2, Value.slice none 0 0), (3, eV w0 ((none : Option Nat))), (4, v40), (5, eV w0 y36.2), (51, Value.bool (x42))] := (hS.part (.cons rfl (.cons rfl (.cons rfl (.cons rfl (.cons rfl (.nil _)))))))
            refine x_then ?_
            rcases ifB h with ⟨hc45, h⟩ | ⟨hc45, h⟩
            · refine c_cond_true (hS.ev_ rfl) hc45 ?_
              refine wp_seq ?_
              refine tk_start #[false, false, false] mixed_ rfl rfl ?_
              replace hM := hM.drew
              generalize w.drew = w at hM ⊢
              refine dk_val (i := 0) (S := Rd w0 K38 []) #[true, false, false] hS rfl (by kernel_rfl) rfl rfl (by decide) (Rd.up (Hp.le.refl _) hM.nil_) (fun w hR => r_ldG rfl ag_32 (hS.ev_ rfl) (hG 2 (by decide)) hR) fun a hS => ?_
              refine dk_any (i := 1) #[true, true, false] hS rfl (by kernel_rfl) rfl rfl (by decide) (fun w => r_assign rfl (hS.ev_ rfl)) fun a hS => ?_
              refine dk_any (i := 2) #[true, true, true] hS rfl (by kernel_rfl) rfl rfl (by decide) (fun w => r_assign rfl (hS.ev_ rfl)) fun a hS => ?_
              refine tk_done (by kernel_rfl) ?_
              replace hS : Slots 56 [] a [(3, eV w0 ((some 2 : Option Nat))), (2, Value.slice none 0 0), (4, v40), (5, eV w0 y36.2)] := (hS.part (.cons rfl (.cons rfl (.cons rfl (.cons rfl (.nil _))))))
              refine x_then ?_
              refine wp_ret ?_
              refine x_then_ret ?_
              refine x_block_ret ?_
              refine x_then_ret ?_
              have hr' := Option.some.inj h
              subst hr'
              refine ret2 (.inr rfl) hS rfl rfl rfl ?_
              exact ⟨K38, (Value.slice none 0 0), hlK38, (hM).tail, rfl, (Kd.sl_nil _ _)⟩
            · refine c_cond_false (hS.ev_ rfl) hc45 ?_
              refine wp_skip ?_
              refine x_then ?_
              refine wp_seq ?_
              refine wp_region_lit ?_
              refine st_val hS rfl rfl (by decide) (r_move rfl (hS.ev_ rfl)) fun a hS => ?_
              refine st_val hS rfl rfl (by decide) (r_move rfl (hS.ev_ rfl)) fun a hS => ?_
              refine st_val hS rfl rfl (by decide) (r_assign rfl (hS.ev_ rfl)) fun a hS => ?_
              refine st_val hS rfl rfl (by decide) (r_assign rfl (hS.ev_ rfl)) fun a hS => ?_
              refine st_done ?_
              replace hS : Slots 56 [] a [(3, eV w0 y36.2), (2, v40)] := (hS.part (.cons rfl (.cons rfl (.nil _))))
              refine x_then ?_
              refine wp_ret ?_
              refine x_block_ret ?_
              refine x_then_ret ?_
              have hr' := Option.some.inj h
              subst hr'
              refine ret2 (.inr rfl) hS rfl rfl rfl ?_
              exact ⟨K38, (v40), hlK38, (hM).tail, rfl, f41⟩
        · refine c_cond_false (hS.ev_ rfl) hc35 ?_
          refine wp_skip ?_
          refine x_block ?_
          refine x_then ?_
          refine wp_seq ?_
          refine tk_start #[false, false, false] mixed_ rfl rfl ?_
          replace hM := hM.drew
          generalize w.drew = w at hM ⊢
          refine dk_val (i := 0) (S := Rd w0 K []) #[true, false, false] hS rfl (by kernel_rfl) rfl rfl (by decide) (Rd.up (Hp.le.refl _) hM.nil_) (fun w hR => r_ldG rfl ag_32 (hS.ev_ rfl) (hG 0 (by decide)) hR) fun a hS => ?_
          refine dk_any (i := 1) #[true, true, false] hS rfl (by kernel_rfl) rfl rfl (by decide) (fun w => r_assign rfl (hS.ev_ rfl)) fun a hS => ?_
          refine dk_any (i := 2) #[true, true, true] hS rfl (by kernel_rfl) rfl rfl (by decide) (fun w => r_assign rfl (hS.ev_ rfl)) fun a hS => ?_
          refine tk_done (by kernel_rfl) ?_
          replace hS : Slots 56 [] a [(3, eV w0 ((some 0 : Option Nat))), (2, Value.slice none 0 0)] := (hS.part (.cons rfl (.cons rfl (.nil _))))
          refine x_then ?_
          refine wp_ret ?_
          have hr' := Option.some.inj h
          subst hr'
          refine ret2 (.inr rfl) hS rfl rfl rfl ?_
          exact ⟨K, (Value.slice none 0 0), (Hp.le.refl _), (hM).tail, rfl, (Kd.sl_nil _ _)⟩

theorem emit_All_c {w0 w : World} {K : Hp} {L : List SP} {p1 : List iac_Token} {v2 : Value} {r : (List UInt8) × (Option Nat)} (hG : Glob w0) (h : emit_All p1 = some r) (f3 : kiac_Token.sl K v2 p1) (hM : Sat w0 w K (L)) :
    Calls Tryd.prog 12 #[v2] w (fun e w' => ∃ (K' : Hp) (v'1 : Value), Hp.le K K' ∧ Sat w0 w' K' (L) ∧ e = .returned (Value.tuple #[v'1, eV w0 r.2]) ∧ Kd.u8.sl K' v'1 r.1) := by
  refine enter_ (n := 28) (args := [v2]) Tryd.func12 rfl rfl (Nat.le_of_ble_eq_true rfl) fun a hS => ?_
  replace hS : Slots 28 [] a [(0, v2)] := hS
  unfold emit_All at h
  refine wp_seq ?_
  refine wp_region_lit ?_
  refine st_val hS rfl rfl (by decide) (r_assign rfl (hS.ev_ rfl)) fun a hS => ?_
  refine st_val hS rfl rfl (by decide) (r_assign rfl (hS.ev_ rfl)) fun a hS => ?_
  refine st_done ?_
  replace hS : Slots 28 [] a [(3, eV w0 ((none : Option Nat))), (2, Value.slice none 0 0), (0, v2)] := (hS.part (.cons rfl (.cons rfl (.cons rfl (.nil _)))))
  refine x_then ?_
  refine wp_seq ?_
  refine wp_region_lit ?_
  refine st_val hS rfl rfl (by decide) (r_assign rfl (hS.ev_ rfl)) fun a hS => ?_
  replace hM := hM.row_nil Kd.u8 5
  refine st_done ?_
  replace hS : Slots 28 [] a [(4, (Value.slice none 0 0)), (3, eV w0 ((none : Option Nat))), (2, Value.slice none 0 0), (0, v2)] := (hS.part (.cons rfl (.cons rfl (.cons rfl (.cons rfl (.nil _))))))
  refine x_then ?_
  refine wp_seq ?_
  refine wp_seq ?_
  refine wp_region_lit ?_
  refine st_val hS rfl rfl (by decide) (r_move rfl (hS.ev_ rfl)) fun a hS => ?_
  refine st_val hS rfl rfl (by decide) (r_len_sl rfl un_22 (hS.ev_ rfl) f3) fun a hS => ?_
  refine st_val hS rfl rfl (by decide) (r_move rfl (hS.ev_ rfl)) fun a hS => ?_
  refine st_done ?_
  replace hS : Slots 28 [] a [(11, Value.int .i64 (0)), (10, Value.int .i64 ((p1.length : Int))), (9, v2), (4, (Value.slice none 0 0)), (3, eV w0 ((none : Option Nat))), (2, Value.slice none 0 0)] := (hS.part (.cons rfl (.cons rfl (.cons rfl (.cons rfl (.cons rfl (.cons rfl (.nil _))))))))
  refine x_then ?_
  refine wp_block ?_
  obtain ⟨o14, h15, h⟩ := bindO h
  refine c_loop_ways (fun e a w => (e = .exit 0 ∧ ∃ (K16 : Hp) (x17 : List UInt8) (v18 : Value), Hp.le K K16 ∧ o14 = Sum.inl x17 ∧ Slots 28 [] a [(2, Value.slice none 0 0), (3, eV w0 ((none : Option Nat))), (4, v18)] ∧ Sat w0 w K16 (SP.row Kd.u8 5 v18 x17 :: L)) ∨ (e = .ret ∧ ∃ (K19 : Hp) (x20 : (Option Nat) × (List UInt8)) (v21 : Value), Hp.le K K19 ∧ o14 = Sum.inr x20 ∧ Slots 28 [] a [(2, Value.slice none 0 0), (3, eV w0 x20.1)] ∧ Sat w0 w K19 (SP.row Kd.u8 5 v21 x20.2 :: L))) ?_ ?_
  · intro c Q hc hQ
    have key : ∀ (x11 : Int) (x12 : List UInt8) (r' : Sum (List UInt8) ((Option Nat) × (List UInt8))), emit_All_l1 p1 x11 x12 = some r' → r' = o14 → ∀ (K10 : Hp) (v13 : Value) (a : Act) (w : World), Hp.le K K10 → Slots 28 [] a [(11, Value.int .i64 (x11)), (10, Value.int .i64 ((p1.length : Int))), (9, v2), (3, eV w0 ((none : Option Nat))), (2, Value.slice none 0 0), (4, v13)] → Sat w0 w K10 (SP.row Kd.u8 5 v13 x12 :: L) → Rnd Tryd.prog c Q a w := by
      refine emit_All_l1.partial_correctness p1 _ ?_
      intro emit_All_l1_rec ih x11 x12 r' h hr K10 v13 a w hlK10 hS hM 
      subst hc
      refine c_round ?_
      refine wp_seq ?_
      refine wp_region_lit ?_
      refine st_val hS rfl rfl (by decide) (r_cmp rfl (hS.ev_ rfl) (hS.ev_ rfl) rfl) fun a hS => ?_
      refine st_done ?_
      replace hS : Slots 28 [] a [(12, Value.bool (decide (x11 < ((p1.length : Int))))), (11, Value.int .i64 (x11)), (10, Value.int .i64 ((p1.length : Int))), (9, v2), (3, eV w0 ((none : Option Nat))), (2, Value.slice none 0 0), (4, v13)] := (hS.part (.cons rfl (.cons rfl (.cons rfl (.cons rfl (.cons rfl (.cons rfl (.cons rfl (.nil _)))))))))
      refine x_then ?_
      refine wp_seq ?_
      rcases ifB h with ⟨hc22, h⟩ | ⟨hc22, h⟩
      · refine c_cond_true (hS.ev_ rfl) hc22 ?_
        refine wp_skip ?_
        refine x_then ?_
        refine wp_seq ?_
        refine wp_block ?_
        refine wp_seq ?_
        refine wp_region_lit ?_
        obtain ⟨e23, h24, h⟩ := bindO h
        obtain ⟨ad25, cp26, cs27, hv28, hr29, h0_30, h1_31, hq32⟩ := sl_at f3 h24 (by decide)
        obtain ⟨v33, rfl, f34⟩ := kiac_Token_open hr29
        refine st_val hS rfl rfl (by decide) (r_idx_sl rfl un_22 ti_26 (hS.ev_ rfl) hv28 (hS.ev_ rfl) h0_30 h1_31) fun a hS => ?_
        refine st_val hS rfl rfl (by decide) (r_ldN_k (cs' := [Value.int .i64 (e23.f_Kind), Value.int .i64 (e23.f_Code), Value.int .i64 (e23.f_Option), v33, Value.bool (e23.f_Cut)]) rfl ag_26 ti_26 (hS.ev_ rfl) hq32 rfl (Rd.up hlK10 hM.nil_)) fun a hS => ?_
        refine wl_cons rfl (e_alloc (cs := [Value.int .i64 (0), Value.int .i64 (0), Value.int .i64 (0), Value.slice none 0 0, Value.bool (false)]) hM rfl ti_26 rfl fun g35 w hM => ?_)
        refine pl hS rfl (by decide) fun a hS => ?_
        refine wl_cons rfl (e_storeN (vs := [Value.int .i64 (e23.f_Kind), Value.int .i64 (e23.f_Code), Value.int .i64 (e23.f_Option), v33, Value.bool (e23.f_Cut)]) hM rfl ti_26 (hS.ev_ rfl) (hS.ev_ rfl) (ones_cons rfl (ones_cons rfl (ones_cons rfl (ones_cons (sl_one f34) (ones_cons rfl ones_nil))))) (Nat.le_of_ble_eq_true rfl) fun w hM => ?_)
        have hM : Sat w0 w K10 (SP.blk g35 26 [Value.int .i64 (e23.f_Kind), Value.int .i64 (e23.f_Code), Value.int .i64 (e23.f_Option), v33, Value.bool (e23.f_Cut)] :: SP.row Kd.u8 5 v13 x12 :: L) := hM
        refine pl0 hS rfl fun a hS => ?_
        refine st_done ?_
        replace hS : Slots 28 [] a [(6, Value.pointer (some ⟨g35, 0, none⟩)), (11, Value.int .i64 (x11)), (10, Value.int .i64 ((p1.length : Int))), (9, v2), (3, eV w0 ((none : Option Nat))), (2, Value.slice none 0 0), (4, v13)] := (hS.part (.cons rfl (.cons rfl (.cons rfl (.cons rfl (.cons rfl (.cons rfl (.cons rfl (.nil _)))))))))
        refine x_then ?_
        refine wp_seq ?_
        refine wp_region_lit ?_
        refine st_val hS rfl rfl (by decide) (r_ldN_b (cs' := [Value.int .i64 (e23.f_Kind), Value.int .i64 (e23.f_Code), Value.int .i64 (e23.f_Option), v33, Value.bool (e23.f_Cut)]) rfl ag_26 ti_26 (hS.ev_ rfl) rfl (Rd.of hM)) fun a hS => ?_
        obtain ⟨y37, h38, h⟩ := bindO h
        have hc40 := emit_Token_c hG h38 (Kd.sl_mono hlK10 f34) hM
        refine wl_cons rfl (e_call rfl Tryd.func18 rfl rfl (args1 (hS.ev_ rfl)) hc40 ?_)
        rintro _ w ⟨K39, v41, hlK39, hM, rfl, f42⟩
        refine ⟨_, rfl, ?_⟩
        refine pl hS rfl (by decide) fun a hS => ?_
        refine st_val hS rfl rfl (by decide) (r_move rfl (hS.ev_ rfl)) fun a hS => ?_
        refine st_val hS rfl rfl (by decide) (r_extract rfl (hS.ev_ rfl) rfl) fun a hS => ?_
        refine st_val hS rfl rfl (by decide) (r_extract rfl (hS.ev_ rfl) rfl) fun a hS => ?_
        refine st_val hS rfl rfl (by decide) (r_assign rfl (hS.ev_ rfl)) fun a hS => ?_
        refine st_val hS rfl rfl (by decide) (r_assign rfl (hS.ev_ rfl)) fun a hS => ?_
        refine st_done ?_
        replace hS : Slots 28 [] a [(8, eV w0 y37.2), (7, v41), (11, Value.int .i64 (x11)), (10, Value.int .i64 ((p1.length : Int))), (9, v2), (3, eV w0 ((none : Option Nat))), (2, Value.slice none 0 0), (4, v13)] := (hS.part (.cons rfl (.cons rfl (.cons rfl (.cons rfl (.cons rfl (.cons rfl (.cons rfl (.cons rfl (.nil _))))))))))
        refine x_then ?_
        refine wp_seq ?_
        refine wp_seq ?_
        refine wp_region_lit ?_
        refine st_val hS rfl rfl (by decide) (r_move rfl (hS.ev_ rfl)) fun a hS => ?_
        refine st_val hS rfl rfl (by decide) (r_errnot rfl if_32 (hS.ev_ (v := eV w0 y37.2) rfl)) fun a hS => ?_
        refine st_done ?_
        replace hS : Slots 28 [] a [(21, Value.bool (y37.2.isSome)), (8, eV w0 y37.2), (7, v41), (11, Value.int .i64 (x11)), (10, Value.int .i64 ((p1.length : Int))), (9, v2), (3, eV w0 ((none : Option Nat))), (2, Value.slice none 0 0), (4, v13)] := (hS.part (.cons rfl (.cons rfl (.cons rfl (.cons rfl (.cons rfl (.cons rfl (.cons rfl (.cons rfl (.cons rfl (.nil _)))))))))))
        refine x_then ?_
        rcases ifB h with ⟨hc43, h⟩ | ⟨hc43, h⟩
        · refine c_cond_true (hS.ev_ rfl) hc43 ?_
          refine wp_seq ?_
          refine wp_region_lit ?_
          refine st_val hS rfl rfl (by decide) (r_move rfl (hS.ev_ rfl)) fun a hS => ?_
          refine st_val hS rfl rfl (by decide) (r_assign rfl (hS.ev_ rfl)) fun a hS => ?_
          refine st_val hS rfl rfl (by decide) (r_assign rfl (hS.ev_ rfl)) fun a hS => ?_
          refine st_done ?_
          replace hS : Slots 28 [] a [(3, eV w0 y37.2), (2, Value.slice none 0 0), (7, v41), (11, Value.int .i64 (x11)), (10, Value.int .i64 ((p1.length : Int))), (9, v2), (4, v13)] := (hS.part (.cons rfl (.cons rfl (.cons rfl (.cons rfl (.cons rfl (.cons rfl (.cons rfl (.nil _)))))))))
          refine x_then ?_
          refine wp_ret ?_
          refine x_then_ret ?_
          refine x_block_ret ?_
          refine x_then_ret ?_
          refine x_then_ret ?_
          have ho' := (Option.some.inj h).trans hr
          refine hQ _ _ _ ?_
          exact .inr (⟨rfl, K39, ((y37.2, x12)), (v13), (hlK10.trans hlK39), ho'.symm, (hS.part (.cons rfl (.cons rfl (.nil _)))), (hM).tail⟩)
        · refine c_cond_false (hS.ev_ rfl) hc43 ?_
          refine wp_skip ?_
          refine x_then ?_
          refine wp_region_lit ?_
          refine st_val hS rfl rfl (by decide) (r_move rfl (hS.ev_ rfl)) fun a hS => ?_
          refine st_val hS rfl rfl (by decide) (r_move rfl (hS.ev_ rfl)) fun a hS => ?_
          replace hM := hM.pull 1 rfl rfl
          obtain ⟨h44, h⟩ := bindU h
          refine wl_cons rfl (e_apd_sl hM rfl un_23 un_23 ti_5 rfl rfl (by decide) (hS.ev_ rfl) (hS.ev_ rfl) f42 (req_some h44) fun v45 w hM => ?_)
          refine pl hS rfl (by decide) fun a hS => ?_
          refine st_val hS rfl rfl (by decide) (r_assign rfl (hS.ev_ rfl)) fun a hS => ?_
          refine st_done ?_
          replace hS : Slots 28 [] a [(4, v45), (11, Value.int .i64 (x11)), (10, Value.int .i64 ((p1.length : Int))), (9, v2), (3, eV w0 ((none : Option Nat))), (2, Value.slice none 0 0)] := (hS.part (.cons rfl (.cons rfl (.cons rfl (.cons rfl (.cons rfl (.cons rfl (.nil _))))))))
          refine x_block ?_
          refine x_then ?_
          refine wp_region_lit ?_
          refine st_val hS rfl rfl (by decide) (r_add rfl (hS.ev_ rfl) (hS.ev_ rfl)) fun a hS => ?_
          refine st_val hS rfl rfl (by decide) (r_move rfl (hS.ev_ rfl)) fun a hS => ?_
          refine st_done ?_
          replace hS : Slots 28 [] a [(11, Value.int .i64 (w64 (x11 + 1))), (4, v45), (10, Value.int .i64 ((p1.length : Int))), (9, v2), (3, eV w0 ((none : Option Nat))), (2, Value.slice none 0 0)] := (hS.part (.cons rfl (.cons rfl (.cons rfl (.cons rfl (.cons rfl (.cons rfl (.nil _))))))))
          refine x_then ?_
          exact ih (w64 (x11 + 1)) (x12 ++ y37.1) _ h hr K39 (v45) _ _ (hlK10.trans hlK39) (hS.part (.cons rfl (.cons rfl (.cons rfl (.cons rfl (.cons rfl (.cons rfl (.nil _)))))))) ((hM.pull 1 rfl rfl).tail)
      · refine c_cond_false (hS.ev_ rfl) hc22 ?_
        refine wp_exit ?_
        refine x_then_exit ?_
        refine x_then_exit ?_
        have ho' := (Option.some.inj h).trans hr
        refine hQ _ _ _ ?_
        exact .inl ⟨rfl, K10, x12, (v13), hlK10, ho'.symm, (hS.part (.cons rfl (.cons rfl (.cons rfl (.nil _))))), hM⟩
    exact key 0 ([] : List UInt8) _ h15 rfl K ((Value.slice none 0 0)) _ _ (Hp.le.refl _) (hS.part (.cons rfl (.cons rfl (.cons rfl (.cons rfl (.cons rfl (.cons rfl (.nil _)))))))) (hM)
  · rintro e a w (⟨rfl, K16, x17, v18, hlK16, ho', hS, hM⟩ | ⟨rfl, K19, x20, v21, hlK19, ho', hS, hM⟩)
    · subst ho'
      dsimp only at h
      refine x_block_here ?_
      refine x_then ?_
      refine wp_seq ?_
      refine wp_region_lit ?_
      refine st_val hS rfl rfl (by decide) (r_move rfl (hS.ev_ rfl)) fun a hS => ?_
      refine st_val hS rfl rfl (by decide) (r_assign rfl (hS.ev_ rfl)) fun a hS => ?_
      refine st_val hS rfl rfl (by decide) (r_assign rfl (hS.ev_ rfl)) fun a hS => ?_
      refine st_done ?_
      replace hS : Slots 28 [] a [(3, eV w0 ((none : Option Nat))), (2, v18)] := (hS.part (.cons rfl (.cons rfl (.nil _))))
      refine x_then ?_
      refine wp_ret ?_
      obtain ⟨K46, hlK46, hM, f47⟩ := keep_row hM
      have hr' := Option.some.inj h
      subst hr'
      refine ret2 (.inr rfl) hS rfl rfl rfl ?_
      exact ⟨K46, (v18), (hlK16.trans hlK46), hM, rfl, f47⟩
    · subst ho'
      dsimp only at h
      refine x_block_ret ?_
      refine x_then_ret ?_
      have hr' := Option.some.inj h
      subst hr'
      refine ret2 (.inr rfl) hS rfl rfl rfl ?_
      exact ⟨K19, (Value.slice none 0 0), hlK19, (hM).tail, rfl, (Kd.sl_nil _ _)⟩

theorem iac_Same_c {w0 w : World} {K : Hp} {L : List SP} {p1 : iac_Token} {p4 : iac_Token} {v2 : Value} {v5 : Value} {r : Bool} (hG : Glob w0) (h : iac_Same p1 p4 = some r) (f3 : Kd.u8.sl K v2 p1.f_Body) (f6 : Kd.u8.sl K v5 p4.f_Body) (hM : Sat w0 w K (L)) :
    Calls Tryd.prog 13 #[Value.agg #[Value.int .i64 (p1.f_Kind), Value.int .i64 (p1.f_Code), Value.int .i64 (p1.f_Option), v2, Value.bool (p1.f_Cut)], Value.agg #[Value.int .i64 (p4.f_Kind), Value.int .i64 (p4.f_Code), Value.int .i64 (p4.f_Option), v5, Value.bool (p4.f_Cut)]] w (fun e w' => ∃ (K' : Hp), Hp.le K K' ∧ Sat w0 w' K' (L) ∧ e = .returned (Value.bool (r))) := by
  refine enter_ (n := 38) (args := [Value.agg #[Value.int .i64 (p1.f_Kind), Value.int .i64 (p1.f_Code), Value.int .i64 (p1.f_Option), v2, Value.bool (p1.f_Cut)], Value.agg #[Value.int .i64 (p4.f_Kind), Value.int .i64 (p4.f_Code), Value.int .i64 (p4.f_Option), v5, Value.bool (p4.f_Cut)]]) Tryd.func13 rfl rfl (Nat.le_of_ble_eq_true rfl) fun a hS => ?_
  replace hS : Slots 38 [] a [(0, Value.agg #[Value.int .i64 (p1.f_Kind), Value.int .i64 (p1.f_Code), Value.int .i64 (p1.f_Option), v2, Value.bool (p1.f_Cut)]), (1, Value.agg #[Value.int .i64 (p4.f_Kind), Value.int .i64 (p4.f_Code), Value.int .i64 (p4.f_Option), v5, Value.bool (p4.f_Cut)])] := hS
  unfold iac_Same at h
  refine wp_seq ?_
  refine wp_region_lit ?_
  refine wl_cons rfl (e_box (cs := [Value.int .i64 (p1.f_Kind), Value.int .i64 (p1.f_Code), Value.int .i64 (p1.f_Option), v2, Value.bool (p1.f_Cut)]) hM rfl (hS.ev_ rfl) rfl fun g7 w hM => ?_)
  refine pl hS rfl (by decide) fun a hS => ?_
  refine wl_cons rfl (e_box (cs := [Value.int .i64 (p4.f_Kind), Value.int .i64 (p4.f_Code), Value.int .i64 (p4.f_Option), v5, Value.bool (p4.f_Cut)]) hM rfl (hS.ev_ rfl) rfl fun g9 w hM => ?_)
  refine pl hS rfl (by decide) fun a hS => ?_
  refine st_val hS rfl rfl (by decide) (r_assign rfl (hS.ev_ rfl)) fun a hS => ?_
  refine st_done ?_
  replace hS : Slots 38 [] a [(4, Value.bool (false)), (3, Value.pointer (some ⟨g9, 0, none⟩)), (2, Value.pointer (some ⟨g7, 0, none⟩))] := (hS.part (.cons rfl (.cons rfl (.cons rfl (.nil _)))))
  refine x_then ?_
  refine wp_seq ?_
  refine wp_region_lit ?_
  refine st_val hS rfl rfl (by decide) (r_fld_b rfl fo_26_0 (hS.ev_ rfl)) fun a hS => ?_
  replace hM := hM.pull 1 rfl rfl
  refine st_val hS rfl rfl (by decide) (r_ld1_b rfl ag_3 (hS.ev_ rfl) rfl (Rd.of hM)) fun a hS => ?_
  refine st_val hS rfl rfl (by decide) (r_fld_b rfl fo_26_0 (hS.ev_ rfl)) fun a hS => ?_
  replace hM := hM.pull 1 rfl rfl
  refine st_val hS rfl rfl (by decide) (r_ld1_b rfl ag_3 (hS.ev_ rfl) rfl (Rd.of hM)) fun a hS => ?_
  refine st_val hS rfl rfl (by decide) (r_cmp rfl (hS.ev_ rfl) (hS.ev_ rfl) rfl) fun a hS => ?_
  refine st_val hS rfl rfl (by decide) (r_move rfl (hS.ev_ rfl)) fun a hS => ?_
  obtain ⟨x11, h12, h⟩ := bindO h
  refine wl_cut 6 (fun a w => Slots 38 [] a [(2, Value.pointer (some ⟨g7, 0, none⟩)), (3, Value.pointer (some ⟨g9, 0, none⟩)), (4, Value.bool (false)), (16, Value.bool (x11))] ∧ Sat w0 w K (SP.blk g9 26 [Value.int .i64 (p4.f_Kind), Value.int .i64 (p4.f_Code), Value.int .i64 (p4.f_Option), v5, Value.bool (p4.f_Cut)] :: SP.blk g7 26 [Value.int .i64 (p1.f_Kind), Value.int .i64 (p1.f_Code), Value.int .i64 (p1.f_Option), v2, Value.bool (p1.f_Cut)] :: L)) ?_ ?_
  ·
    skip
    rcases ifB h12 with ⟨hc13, h12⟩ | ⟨hc13, h12⟩
    ·
      replace hS := hS.known (k := 10) rfl hc13
      refine st_want hS rfl rfl rfl rfl rfl (by decide) (r_fld_b rfl fo_26_1 (hS.ev_ rfl)) fun a hS => ?_
      replace hM := hM.pull 1 rfl rfl
      refine st_want hS rfl rfl rfl rfl rfl (by decide) (r_ld1_b rfl ag_3 (hS.ev_ rfl) rfl (Rd.of hM)) fun a hS => ?_
      refine st_want hS rfl rfl rfl rfl rfl (by decide) (r_fld_b rfl fo_26_1 (hS.ev_ rfl)) fun a hS => ?_
      replace hM := hM.pull 1 rfl rfl
      refine st_want hS rfl rfl rfl rfl rfl (by decide) (r_ld1_b rfl ag_3 (hS.ev_ rfl) rfl (Rd.of hM)) fun a hS => ?_
      refine st_want hS rfl rfl rfl rfl rfl (by decide) (r_cmp rfl (hS.ev_ rfl) (hS.ev_ rfl) rfl) fun a hS => ?_
      refine st_val hS rfl rfl (by decide) (r_pick_true rfl (hS.ev_ rfl) rfl (hS.ev_ rfl)) fun a hS => ?_
      refine st_done ?_
      replace hS : Slots 38 [] a [(16, Value.bool (p1.f_Code == p4.f_Code)), (4, Value.bool (false)), (3, Value.pointer (some ⟨g9, 0, none⟩)), (2, Value.pointer (some ⟨g7, 0, none⟩))] := (hS.part (.cons rfl (.cons rfl (.cons rfl (.cons rfl (.nil _))))))
      refine x_then ?_
      obtain rfl := Option.some.inj h12
      exact ⟨(hS.part (.cons rfl (.cons rfl (.cons rfl (.cons rfl (.nil _)))))), ((hM.pull 1 rfl rfl).pull 1 rfl rfl)⟩
    ·
      replace hS := hS.known (k := 10) rfl hc13
      refine st_off hS rfl rfl rfl rfl rfl rfl (by decide) fun a hS => ?_
      refine st_off hS rfl rfl rfl rfl rfl rfl (by decide) fun a hS => ?_
      refine st_off hS rfl rfl rfl rfl rfl rfl (by decide) fun a hS => ?_
      refine st_off hS rfl rfl rfl rfl rfl rfl (by decide) fun a hS => ?_
      refine st_off hS rfl rfl rfl rfl rfl rfl (by decide) fun a hS => ?_
      refine st_val hS rfl rfl (by decide) (r_pick_false rfl (hS.ev_ rfl) rfl (hS.ev_ rfl)) fun a hS => ?_
      refine st_done ?_
      replace hS : Slots 38 [] a [(16, Value.bool (false)), (4, Value.bool (false)), (3, Value.pointer (some ⟨g9, 0, none⟩)), (2, Value.pointer (some ⟨g7, 0, none⟩))] := (hS.part (.cons rfl (.cons rfl (.cons rfl (.cons rfl (.nil _))))))
      refine x_then ?_
      obtain rfl := Option.some.inj h12
      exact ⟨(hS.part (.cons rfl (.cons rfl (.cons rfl (.cons rfl (.nil _)))))), ((hM.pull 1 rfl rfl).pull 1 rfl rfl)⟩
  · rintro a w ⟨hS, hM⟩
    refine st_val hS rfl rfl (by decide) (r_move rfl (hS.ev_ rfl)) fun a hS => ?_
    obtain ⟨x14, h15, h⟩ := bindO h
    refine wl_cut 6 (fun a w => Slots 38 [] a [(2, Value.pointer (some ⟨g7, 0, none⟩)), (3, Value.pointer (some ⟨g9, 0, none⟩)), (4, Value.bool (false)), (23, Value.bool (x14))] ∧ Sat w0 w K (SP.blk g9 26 [Value.int .i64 (p4.f_Kind), Value.int .i64 (p4.f_Code), Value.int .i64 (p4.f_Option), v5, Value.bool (p4.f_Cut)] :: SP.blk g7 26 [Value.int .i64 (p1.f_Kind), Value.int .i64 (p1.f_Code), Value.int .i64 (p1.f_Option), v2, Value.bool (p1.f_Cut)] :: L)) ?_ ?_
    ·
      skip
      rcases ifB h15 with ⟨hc16, h15⟩ | ⟨hc16, h15⟩
      ·
        replace hS := hS.known (k := 17) rfl hc16
        refine st_want hS rfl rfl rfl rfl rfl (by decide) (r_fld_b rfl fo_26_2 (hS.ev_ rfl)) fun a hS => ?_
        replace hM := hM.pull 1 rfl rfl
        refine st_want hS rfl rfl rfl rfl rfl (by decide) (r_ld1_b rfl ag_3 (hS.ev_ rfl) rfl (Rd.of hM)) fun a hS => ?_
        refine st_want hS rfl rfl rfl rfl rfl (by decide) (r_fld_b rfl fo_26_2 (hS.ev_ rfl)) fun a hS => ?_
        replace hM := hM.pull 1 rfl rfl
        refine st_want hS rfl rfl rfl rfl rfl (by decide) (r_ld1_b rfl ag_3 (hS.ev_ rfl) rfl (Rd.of hM)) fun a hS => ?_
        refine st_want hS rfl rfl rfl rfl rfl (by decide) (r_cmp rfl (hS.ev_ rfl) (hS.ev_ rfl) rfl) fun a hS => ?_
        refine st_val hS rfl rfl (by decide) (r_pick_true rfl (hS.ev_ rfl) rfl (hS.ev_ rfl)) fun a hS => ?_
        refine st_done ?_
        replace hS : Slots 38 [] a [(23, Value.bool (p1.f_Option == p4.f_Option)), (2, Value.pointer (some ⟨g7, 0, none⟩)), (3, Value.pointer (some ⟨g9, 0, none⟩)), (4, Value.bool (false))] := (hS.part (.cons rfl (.cons rfl (.cons rfl (.cons rfl (.nil _))))))
        refine x_then ?_
        obtain rfl := Option.some.inj h15
        exact ⟨(hS.part (.cons rfl (.cons rfl (.cons rfl (.cons rfl (.nil _)))))), ((hM.pull 1 rfl rfl).pull 1 rfl rfl)⟩
      ·
        replace hS := hS.known (k := 17) rfl hc16
        refine st_off hS rfl rfl rfl rfl rfl rfl (by decide) fun a hS => ?_
        refine st_off hS rfl rfl rfl rfl rfl rfl (by decide) fun a hS => ?_
        refine st_off hS rfl rfl rfl rfl rfl rfl (by decide) fun a hS => ?_
        refine st_off hS rfl rfl rfl rfl rfl rfl (by decide) fun a hS => ?_
        refine st_off hS rfl rfl rfl rfl rfl rfl (by decide) fun a hS => ?_
        refine st_val hS rfl rfl (by decide) (r_pick_false rfl (hS.ev_ rfl) rfl (hS.ev_ rfl)) fun a hS => ?_
        refine st_done ?_
        replace hS : Slots 38 [] a [(23, Value.bool (false)), (2, Value.pointer (some ⟨g7, 0, none⟩)), (3, Value.pointer (some ⟨g9, 0, none⟩)), (4, Value.bool (false))] := (hS.part (.cons rfl (.cons rfl (.cons rfl (.cons rfl (.nil _))))))
        refine x_then ?_
        obtain rfl := Option.some.inj h15
        exact ⟨(hS.part (.cons rfl (.cons rfl (.cons rfl (.cons rfl (.nil _)))))), ((hM.pull 1 rfl rfl).pull 1 rfl rfl)⟩
    · rintro a w ⟨hS, hM⟩
      refine st_val hS rfl rfl (by decide) (r_move rfl (hS.ev_ rfl)) fun a hS => ?_
      obtain ⟨x17, h18, h⟩ := bindO h
      refine wl_cut 6 (fun a w => Slots 38 [] a [(2, Value.pointer (some ⟨g7, 0, none⟩)), (3, Value.pointer (some ⟨g9, 0, none⟩)), (4, Value.bool (false)), (30, Value.bool (x17))] ∧ Sat w0 w K (SP.blk g9 26 [Value.int .i64 (p4.f_Kind), Value.int .i64 (p4.f_Code), Value.int .i64 (p4.f_Option), v5, Value.bool (p4.f_Cut)] :: SP.blk g7 26 [Value.int .i64 (p1.f_Kind), Value.int .i64 (p1.f_Code), Value.int .i64 (p1.f_Option), v2, Value.bool (p1.f_Cut)] :: L)) ?_ ?_
      ·
        skip
        rcases ifB h18 with ⟨hc19, h18⟩ | ⟨hc19, h18⟩
        ·
          replace hS := hS.known (k := 24) rfl hc19
          refine st_want hS rfl rfl rfl rfl rfl (by decide) (r_fld_b rfl fo_26_4 (hS.ev_ rfl)) fun a hS => ?_
          replace hM := hM.pull 1 rfl rfl
          refine st_want hS rfl rfl rfl rfl rfl (by decide) (r_ld1_b rfl ag_4 (hS.ev_ rfl) rfl (Rd.of hM)) fun a hS => ?_
          refine st_want hS rfl rfl rfl rfl rfl (by decide) (r_fld_b rfl fo_26_4 (hS.ev_ rfl)) fun a hS => ?_
          replace hM := hM.pull 1 rfl rfl
          refine st_want hS rfl rfl rfl rfl rfl (by decide) (r_ld1_b rfl ag_4 (hS.ev_ rfl) rfl (Rd.of hM)) fun a hS => ?_
          refine st_want hS rfl rfl rfl rfl rfl (by decide) (r_beq rfl un_4 (hS.ev_ rfl) (hS.ev_ rfl)) fun a hS => ?_
          refine st_val hS rfl rfl (by decide) (r_pick_true rfl (hS.ev_ rfl) rfl (hS.ev_ rfl)) fun a hS => ?_
          refine st_done ?_
          replace hS : Slots 38 [] a [(30, Value.bool (p1.f_Cut == p4.f_Cut)), (2, Value.pointer (some ⟨g7, 0, none⟩)), (3, Value.pointer (some ⟨g9, 0, none⟩)), (4, Value.bool (false))] := (hS.part (.cons rfl (.cons rfl (.cons rfl (.cons rfl (.nil _))))))
          refine x_then ?_
          obtain rfl := Option.some.inj h18
          exact ⟨(hS.part (.cons rfl (.cons rfl (.cons rfl (.cons rfl (.nil _)))))), ((hM.pull 1 rfl rfl).pull 1 rfl rfl)⟩
        ·
          replace hS := hS.known (k := 24) rfl hc19
          refine st_off hS rfl rfl rfl rfl rfl rfl (by decide) fun a hS => ?_
          refine st_off hS rfl rfl rfl rfl rfl rfl (by decide) fun a hS => ?_
          refine st_off hS rfl rfl rfl rfl rfl rfl (by decide) fun a hS => ?_
          refine st_off hS rfl rfl rfl rfl rfl rfl (by decide) fun a hS => ?_
          refine st_off hS rfl rfl rfl rfl rfl rfl (by decide) fun a hS => ?_
          refine st_val hS rfl rfl (by decide) (r_pick_false rfl (hS.ev_ rfl) rfl (hS.ev_ rfl)) fun a hS => ?_
          refine st_done ?_
          replace hS : Slots 38 [] a [(30, Value.bool (false)), (2, Value.pointer (some ⟨g7, 0, none⟩)), (3, Value.pointer (some ⟨g9, 0, none⟩)), (4, Value.bool (false))] := (hS.part (.cons rfl (.cons rfl (.cons rfl (.cons rfl (.nil _))))))
          refine x_then ?_
          obtain rfl := Option.some.inj h18
          exact ⟨(hS.part (.cons rfl (.cons rfl (.cons rfl (.cons rfl (.nil _)))))), ((hM.pull 1 rfl rfl).pull 1 rfl rfl)⟩
      · rintro a w ⟨hS, hM⟩
        refine st_val hS rfl rfl (by decide) (r_move rfl (hS.ev_ rfl)) fun a hS => ?_
        obtain ⟨x21, h22, h⟩ := bindO h
        refine wl_cut 6 (fun a w => ∃ (K20 : Hp), Hp.le K K20 ∧ Slots 38 [] a [(4, Value.bool (false)), (37, Value.bool (x21))] ∧ Sat w0 w K20 (SP.blk g9 26 [Value.int .i64 (p4.f_Kind), Value.int .i64 (p4.f_Code), Value.int .i64 (p4.f_Option), v5, Value.bool (p4.f_Cut)] :: SP.blk g7 26 [Value.int .i64 (p1.f_Kind), Value.int .i64 (p1.f_Code), Value.int .i64 (p1.f_Option), v2, Value.bool (p1.f_Cut)] :: L)) ?_ ?_
        ·
          skip
          rcases ifB h22 with ⟨hc23, h22⟩ | ⟨hc23, h22⟩
          ·
            replace hS := hS.known (k := 31) rfl hc23
            refine st_want hS rfl rfl rfl rfl rfl (by decide) (r_fld_b rfl fo_26_3 (hS.ev_ rfl)) fun a hS => ?_
            replace hM := hM.pull 1 rfl rfl
            refine st_want hS rfl rfl rfl rfl rfl (by decide) (r_ld1_b rfl ag_23 (hS.ev_ rfl) rfl (Rd.of hM)) fun a hS => ?_
            refine st_want hS rfl rfl rfl rfl rfl (by decide) (r_fld_b rfl fo_26_3 (hS.ev_ rfl)) fun a hS => ?_
            replace hM := hM.pull 1 rfl rfl
            refine st_want hS rfl rfl rfl rfl rfl (by decide) (r_ld1_b rfl ag_23 (hS.ev_ rfl) rfl (Rd.of hM)) fun a hS => ?_
            obtain ⟨y24, h25, h22⟩ := bindO h22
            have hc27 := bytes_Equal_c hG h25 f3 f6 hM
            refine g_want hS rfl rfl rfl rfl (e_call rfl Tryd.func19 rfl rfl (args2 (hS.ev_ rfl) (hS.ev_ rfl)) hc27 ?_)
            rintro _ w ⟨K26, hlK26, hM, rfl⟩
            refine ⟨_, rfl, ?_⟩
            refine pl hS rfl (by decide) fun a hS => ?_
            refine st_val hS rfl rfl (by decide) (r_pick_true rfl (hS.ev_ rfl) rfl (hS.ev_ rfl)) fun a hS => ?_
            refine st_done ?_
            replace hS : Slots 38 [] a [(37, Value.bool (y24)), (4, Value.bool (false))] := (hS.part (.cons rfl (.cons rfl (.nil _))))
            refine x_then ?_
            obtain rfl := Option.some.inj h22
            exact ⟨K26, hlK26, (hS.part (.cons rfl (.cons rfl (.nil _)))), ((hM.pull 1 rfl rfl).pull 1 rfl rfl)⟩
          ·
            replace hS := hS.known (k := 31) rfl hc23
            refine st_off hS rfl rfl rfl rfl rfl rfl (by decide) fun a hS => ?_
            refine st_off hS rfl rfl rfl rfl rfl rfl (by decide) fun a hS => ?_
            refine st_off hS rfl rfl rfl rfl rfl rfl (by decide) fun a hS => ?_
            refine st_off hS rfl rfl rfl rfl rfl rfl (by decide) fun a hS => ?_
            refine st_off hS rfl rfl rfl rfl rfl rfl (by decide) fun a hS => ?_
            refine st_val hS rfl rfl (by decide) (r_pick_false rfl (hS.ev_ rfl) rfl (hS.ev_ rfl)) fun a hS => ?_
            refine st_done ?_
            replace hS : Slots 38 [] a [(37, Value.bool (false)), (4, Value.bool (false))] := (hS.part (.cons rfl (.cons rfl (.nil _))))
            refine x_then ?_
            obtain rfl := Option.some.inj h22
            exact ⟨K, (Hp.le.refl _), (hS.part (.cons rfl (.cons rfl (.nil _)))), ((hM.pull 1 rfl rfl).pull 1 rfl rfl)⟩
        · rintro a w ⟨K20, hlK20, hS, hM⟩
          refine st_val hS rfl rfl (by decide) (r_assign rfl (hS.ev_ rfl)) fun a hS => ?_
          refine st_done ?_
          replace hS : Slots 38 [] a [(4, Value.bool (x21))] := (hS.part (.cons rfl (.nil _)))
          refine x_then ?_
          refine wp_ret ?_
          have hr' := Option.some.inj h
          subst hr'
          refine ret1 (.inr rfl) hS rfl rfl ?_
          exact ⟨K20, hlK20, ((hM).tail).tail, rfl⟩

theorem Law_back_c {w0 w : World} {K : Hp} {L : List SP} {p1 : List iac_Token} {v2 : Value} {r : Bool} (hG : Glob w0) (h : Law_back p1 = some r) (f3 : kiac_Token.sl K v2 p1) (hM : Sat w0 w K (L)) :
    Calls Tryd.prog 6 #[v2] w (fun e w' => ∃ (K' : Hp), Hp.le K K' ∧ Sat w0 w' K' (L) ∧ e = .returned (Value.bool (r))) := by
  refine enter_ (n := 75) (args := [v2]) Tryd.func6 rfl rfl (Nat.le_of_ble_eq_true rfl) fun a hS => ?_
  replace hS : Slots 75 [] a [(0, v2)] := hS
  unfold Law_back at h
  refine wp_seq ?_
  refine wp_region_lit ?_
  refine st_val hS rfl rfl (by decide) (r_assign rfl (hS.ev_ rfl)) fun a hS => ?_
  refine st_done ?_
  replace hS : Slots 75 [] a [(2, Value.bool (false)), (0, v2)] := (hS.part (.cons rfl (.cons rfl (.nil _))))
  refine x_then ?_
  refine wp_seq ?_
  refine wp_region_lit ?_
  refine st_val hS rfl rfl (by decide) (r_move rfl (hS.ev_ rfl)) fun a hS => ?_
  obtain ⟨y4, h5, h⟩ := bindO h
  have hc7 := emit_All_c hG h5 f3 hM
  refine wl_cons rfl (e_call rfl Tryd.func12 rfl rfl (args1 (hS.ev_ rfl)) hc7 ?_)
  rintro _ w ⟨K6, v8, hlK6, hM, rfl, f9⟩
  refine ⟨_, rfl, ?_⟩
  refine pl hS rfl (by decide) fun a hS => ?_
  refine st_val hS rfl rfl (by decide) (r_move rfl (hS.ev_ rfl)) fun a hS => ?_
  refine st_val hS rfl rfl (by decide) (r_extract rfl (hS.ev_ rfl) rfl) fun a hS => ?_
  refine st_val hS rfl rfl (by decide) (r_extract rfl (hS.ev_ rfl) rfl) fun a hS => ?_
  refine st_val hS rfl rfl (by decide) (r_assign rfl (hS.ev_ rfl)) fun a hS => ?_
  refine st_val hS rfl rfl (by decide) (r_assign rfl (hS.ev_ rfl)) fun a hS => ?_
  refine st_done ?_
  replace hS : Slots 75 [] a [(4, eV w0 y4.2), (3, v8), (2, Value.bool (false)), (0, v2)] := (hS.part (.cons rfl (.cons rfl (.cons rfl (.cons rfl (.nil _))))))
  refine x_then ?_
  refine wp_seq ?_
  refine wp_seq ?_
  refine wp_region_lit ?_
  refine st_val hS rfl rfl (by decide) (r_move rfl (hS.ev_ rfl)) fun a hS => ?_
  refine st_val hS rfl rfl (by decide) (r_errnot rfl if_32 (hS.ev_ (v := eV w0 y4.2) rfl)) fun a hS => ?_
  refine st_done ?_
  replace hS : Slots 75 [] a [(16, Value.bool (y4.2.isSome)), (3, v8), (2, Value.bool (false)), (0, v2)] := (hS.part (.cons rfl (.cons rfl (.cons rfl (.cons rfl (.nil _))))))
  refine x_then ?_
  rcases ifB h with ⟨hc10, h⟩ | ⟨hc10, h⟩
  · refine c_cond_true (hS.ev_ rfl) hc10 ?_
    refine wp_seq ?_
    refine wp_region_lit ?_
    refine st_val hS rfl rfl (by decide) (r_move rfl (hS.ev_ rfl)) fun a hS => ?_
    refine st_val hS rfl rfl (by decide) (r_len_sl rfl un_23 (hS.ev_ rfl) f9) fun a hS => ?_
    refine st_val hS rfl rfl (by decide) (r_cmp rfl (hS.ev_ rfl) (hS.ev_ rfl) rfl) fun a hS => ?_
    refine st_val hS rfl rfl (by decide) (r_assign rfl (hS.ev_ rfl)) fun a hS => ?_
    refine st_done ?_
    replace hS : Slots 75 [] a [(2, Value.bool (((y4.1.length : Int)) == 0)), (3, v8), (0, v2)] := (hS.part (.cons rfl (.cons rfl (.cons rfl (.nil _)))))
    refine x_then ?_
    refine wp_ret ?_
    refine x_then_ret ?_
    have hr' := Option.some.inj h
    subst hr'
    refine ret1 (.inr rfl) hS rfl rfl ?_
    exact ⟨K6, hlK6, hM, rfl⟩
  · refine c_cond_false (hS.ev_ rfl) hc10 ?_
    refine wp_skip ?_
    refine x_then ?_
    refine wp_seq ?_
    refine wp_region_lit ?_
    refine st_val hS rfl rfl (by decide) (r_move rfl (hS.ev_ rfl)) fun a hS => ?_
    obtain ⟨y11, h12, h⟩ := bindO h
    have hc14 := iac_All_c hG h12 f9 hM
    refine wl_cons rfl (e_call rfl Tryd.func5 rfl rfl (args1 (hS.ev_ rfl)) hc14 ?_)
    rintro _ w ⟨K13, v15, hlK13, hM, rfl, f16⟩
    refine ⟨_, rfl, ?_⟩
    refine pl hS rfl (by decide) fun a hS => ?_
    refine st_val hS rfl rfl (by decide) (r_move rfl (hS.ev_ rfl)) fun a hS => ?_
    refine st_val hS rfl rfl (by decide) (r_extract rfl (hS.ev_ rfl) rfl) fun a hS => ?_
    refine st_val hS rfl rfl (by decide) (r_extract rfl (hS.ev_ rfl) rfl) fun a hS => ?_
    refine st_val hS rfl rfl (by decide) (r_assign rfl (hS.ev_ rfl)) fun a hS => ?_
    refine st_val hS rfl rfl (by decide) (r_assign rfl (hS.ev_ rfl)) fun a hS => ?_
    refine st_done ?_
    replace hS : Slots 75 [] a [(6, Value.bool (y11.2)), (5, v15), (2, Value.bool (false)), (0, v2)] := (hS.part (.cons rfl (.cons rfl (.cons rfl (.cons rfl (.nil _))))))
    refine x_then ?_
    refine wp_seq ?_
    refine wp_seq ?_
    refine wp_region_lit ?_
    refine st_val hS rfl rfl (by decide) (r_move rfl (hS.ev_ rfl)) fun a hS => ?_
    refine st_val hS rfl rfl (by decide) (r_not rfl (hS.ev_ rfl)) fun a hS => ?_
    refine st_val hS rfl rfl (by decide) (r_move rfl (hS.ev_ rfl)) fun a hS => ?_
    obtain ⟨x17, h18, h⟩ := bindO h
    refine wl_cut 6 (fun a w => Slots 75 [] a [(0, v2), (2, Value.bool (false)), (5, v15), (33, Value.bool (x17))] ∧ Sat w0 w K13 (L)) ?_ ?_
    ·
      skip
      rcases ifB h18 with ⟨hc19, h18⟩ | ⟨hc19, h18⟩
      ·
        replace hS := hS.known (k := 27) rfl hc19
        refine st_off hS rfl rfl rfl rfl rfl rfl (by decide) fun a hS => ?_
        refine st_off hS rfl rfl rfl rfl rfl rfl (by decide) fun a hS => ?_
        refine st_off hS rfl rfl rfl rfl rfl rfl (by decide) fun a hS => ?_
        refine st_off hS rfl rfl rfl rfl rfl rfl (by decide) fun a hS => ?_
        refine st_off hS rfl rfl rfl rfl rfl rfl (by decide) fun a hS => ?_
        refine st_val hS rfl rfl (by decide) (r_pick_true rfl (hS.ev_ rfl) rfl (hS.ev_ rfl)) fun a hS => ?_
        refine st_done ?_
        replace hS : Slots 75 [] a [(33, Value.bool (true)), (5, v15), (2, Value.bool (false)), (0, v2)] := (hS.part (.cons rfl (.cons rfl (.cons rfl (.cons rfl (.nil _))))))
        refine x_then ?_
        obtain rfl := Option.some.inj h18
        exact ⟨(hS.part (.cons rfl (.cons rfl (.cons rfl (.cons rfl (.nil _)))))), hM⟩
      ·
        replace hS := hS.known (k := 27) rfl hc19
        refine st_want hS rfl rfl rfl rfl rfl (by decide) (r_move rfl (hS.ev_ rfl)) fun a hS => ?_
        refine st_want hS rfl rfl rfl rfl rfl (by decide) (r_len_sl rfl un_22 (hS.ev_ rfl) f16) fun a hS => ?_
        refine st_want hS rfl rfl rfl rfl rfl (by decide) (r_move rfl (hS.ev_ rfl)) fun a hS => ?_
        refine st_want hS rfl rfl rfl rfl rfl (by decide) (r_len_sl rfl un_22 (hS.ev_ rfl) f3) fun a hS => ?_
        refine st_want hS rfl rfl rfl rfl rfl (by decide) (r_cmp rfl (hS.ev_ rfl) (hS.ev_ rfl) rfl) fun a hS => ?_
        refine st_val hS rfl rfl (by decide) (r_pick_false rfl (hS.ev_ rfl) rfl (hS.ev_ rfl)) fun a hS => ?_
        refine st_done ?_
        replace hS : Slots 75 [] a [(33, Value.bool (((y11.1.length : Int)) != ((p1.length : Int)))), (5, v15), (2, Value.bool (false)), (0, v2)] := (hS.part (.cons rfl (.cons rfl (.cons rfl (.cons rfl (.nil _))))))
        refine x_then ?_
        obtain rfl := Option.some.inj h18
        exact ⟨(hS.part (.cons rfl (.cons rfl (.cons rfl (.cons rfl (.nil _)))))), hM⟩
    · rintro a w ⟨hS, hM⟩
      refine st_done ?_
      replace hS : Slots 75 [] a [(0, v2), (2, Value.bool (false)), (5, v15), (33, Value.bool (x17))] := (hS.part (.cons rfl (.cons rfl (.cons rfl (.cons rfl (.nil _))))))
      refine x_then ?_
      rcases ifB h with ⟨hc20, h⟩ | ⟨hc20, h⟩
      · refine c_cond_true (hS.ev_ rfl) hc20 ?_
        refine wp_seq ?_
        refine wp_region_lit ?_
        refine st_val hS rfl rfl (by decide) (r_assign rfl (hS.ev_ rfl)) fun a hS => ?_
        refine st_done ?_
        replace hS : Slots 75 [] a [(2, Value.bool (false)), (0, v2), (5, v15)] := (hS.part (.cons rfl (.cons rfl (.cons rfl (.nil _)))))
        refine x_then ?_
        refine wp_ret ?_
        refine x_then_ret ?_
        have hr' := Option.some.inj h
        subst hr'
        refine ret1 (.inr rfl) hS rfl rfl ?_
        exact ⟨K13, (hlK6.trans hlK13), hM, rfl⟩
      · refine c_cond_false (hS.ev_ rfl) hc20 ?_
        refine wp_skip ?_
        refine x_then ?_
        refine wp_seq ?_
        refine wp_seq ?_
        refine wp_region_lit ?_
        refine st_val hS rfl rfl (by decide) (r_move rfl (hS.ev_ rfl)) fun a hS => ?_
        refine st_val hS rfl rfl (by decide) (r_len_sl rfl un_22 (hS.ev_ rfl) f3) fun a hS => ?_
        refine st_val hS rfl rfl (by decide) (r_move rfl (hS.ev_ rfl)) fun a hS => ?_
        refine st_done ?_
        replace hS : Slots 75 [] a [(36, Value.int .i64 (0)), (35, Value.int .i64 ((p1.length : Int))), (34, v2), (2, Value.bool (false)), (5, v15)] := (hS.part (.cons rfl (.cons rfl (.cons rfl (.cons rfl (.cons rfl (.nil _)))))))
        refine x_then ?_
        refine wp_block ?_
        obtain ⟨o26, h27, h⟩ := bindO h
        refine c_loop_ways (fun e a w => (e = .exit 0 ∧ ∃ (K28 : Hp) (x29 : Unit), Hp.le K13 K28 ∧ o26 = Sum.inl x29 ∧ Slots 75 [] a [(2, Value.bool (false))] ∧ Sat w0 w K28 (L)) ∨ (e = .ret ∧ ∃ (K30 : Hp) (x31 : Unit), Hp.le K13 K30 ∧ o26 = Sum.inr x31 ∧ Slots 75 [] a [(2, Value.bool (false))] ∧ Sat w0 w K30 (L))) ?_ ?_
        · intro c Q hc hQ
          have key : ∀ (x25 : Int) (r' : Sum Unit Unit), Law_back_l1 p1 y11 x25 = some r' → r' = o26 → ∀ (K24 : Hp) (a : Act) (w : World), Hp.le K13 K24 → Slots 75 [] a [(36, Value.int .i64 (x25)), (35, Value.int .i64 ((p1.length : Int))), (34, v2), (2, Value.bool (false)), (5, v15)] → Sat w0 w K24 (L) → Rnd Tryd.prog c Q a w := by
            refine Law_back_l1.partial_correctness p1 y11 _ ?_
            intro Law_back_l1_rec ih x25 r' h hr K24  a w hlK24 hS hM 
            subst hc
            refine c_round ?_
            refine wp_seq ?_
            refine wp_region_lit ?_
            refine st_val hS rfl rfl (by decide) (r_cmp rfl (hS.ev_ rfl) (hS.ev_ rfl) rfl) fun a hS => ?_
            refine st_done ?_
            replace hS : Slots 75 [] a [(37, Value.bool (decide (x25 < ((p1.length : Int))))), (36, Value.int .i64 (x25)), (35, Value.int .i64 ((p1.length : Int))), (34, v2), (2, Value.bool (false)), (5, v15)] := (hS.part (.cons rfl (.cons rfl (.cons rfl (.cons rfl (.cons rfl (.cons rfl (.nil _))))))))
            refine x_then ?_
            refine wp_seq ?_
            rcases ifB h with ⟨hc32, h⟩ | ⟨hc32, h⟩
            · refine c_cond_true (hS.ev_ rfl) hc32 ?_
              refine wp_skip ?_
              refine x_then ?_
              extract_lets k34 at h
              refine c_cut (fun a w => ∃ (K33 : Hp), Hp.le K24 K33 ∧ k34 () = some r' ∧ Slots 75 [] a [(2, Value.bool (false)), (5, v15), (34, v2), (35, Value.int .i64 ((p1.length : Int))), (36, Value.int .i64 (x25))] ∧ Sat w0 w K33 (L)) ?_ ?_
              ·
                refine wp_block ?_
                refine wp_seq ?_
                refine wp_region_lit ?_
                refine st_val hS rfl rfl (by decide) (r_move rfl (hS.ev_ rfl)) fun a hS => ?_
                obtain ⟨e36, h37, h⟩ := bindO h
                obtain ⟨ad38, cp39, cs40, hv41, hr42, h0_43, h1_44, hq45⟩ := sl_at f3 h37 (by decide)
                obtain ⟨v46, rfl, f47⟩ := kiac_Token_open hr42
                refine st_val hS rfl rfl (by decide) (r_idx_sl rfl un_22 ti_26 (hS.ev_ rfl) hv41 (hS.ev_ rfl) h0_43 h1_44) fun a hS => ?_
                refine st_val hS rfl rfl (by decide) (r_ldN_k (cs' := [Value.int .i64 (e36.f_Kind), Value.int .i64 (e36.f_Code), Value.int .i64 (e36.f_Option), v46, Value.bool (e36.f_Cut)]) rfl ag_26 ti_26 (hS.ev_ rfl) hq45 rfl (Rd.up ((hlK6.trans hlK13).trans hlK24) hM.nil_)) fun a hS => ?_
                refine wl_cons rfl (e_alloc (cs := [Value.int .i64 (0), Value.int .i64 (0), Value.int .i64 (0), Value.slice none 0 0, Value.bool (false)]) hM rfl ti_26 rfl fun g48 w hM => ?_)
                refine pl hS rfl (by decide) fun a hS => ?_
                refine st_val hS rfl rfl (by decide) (r_assign rfl (hS.ev_ rfl)) fun a hS => ?_
                refine wl_cons rfl (e_storeN (vs := [Value.int .i64 (e36.f_Kind), Value.int .i64 (e36.f_Code), Value.int .i64 (e36.f_Option), v46, Value.bool (e36.f_Cut)]) hM rfl ti_26 (hS.ev_ rfl) (hS.ev_ rfl) (ones_cons rfl (ones_cons rfl (ones_cons rfl (ones_cons (sl_one f47) (ones_cons rfl ones_nil))))) (Nat.le_of_ble_eq_true rfl) fun w hM => ?_)
                have hM : Sat w0 w K24 (SP.blk g48 26 [Value.int .i64 (e36.f_Kind), Value.int .i64 (e36.f_Code), Value.int .i64 (e36.f_Option), v46, Value.bool (e36.f_Cut)] :: L) := hM
                refine pl0 hS rfl fun a hS => ?_
                refine st_done ?_
                replace hS : Slots 75 [] a [(7, Value.int .i64 (x25)), (8, Value.pointer (some ⟨g48, 0, none⟩)), (36, Value.int .i64 (x25)), (35, Value.int .i64 ((p1.length : Int))), (34, v2), (2, Value.bool (false)), (5, v15)] := (hS.part (.cons rfl (.cons rfl (.cons rfl (.cons rfl (.cons rfl (.cons rfl (.cons rfl (.nil _)))))))))
                refine x_then ?_
                refine wp_seq ?_
                refine wp_region_lit ?_
                refine st_val hS rfl rfl (by decide) (r_fld_b rfl fo_26_0 (hS.ev_ rfl)) fun a hS => ?_
                refine st_val hS rfl rfl (by decide) (r_ld1_b rfl ag_3 (hS.ev_ rfl) rfl (Rd.of hM)) fun a hS => ?_
                refine st_val hS rfl rfl (by decide) (r_build (cs := [Value.int .i64 (e36.f_Kind), Value.int .i64 (0), Value.int .i64 (0), Value.slice none 0 0, Value.bool (false)]) rfl (parts_ev hS rfl) (by kernel_rfl)) fun a hS => ?_
                refine wl_cons rfl (e_alloc (cs := [Value.int .i64 (0), Value.int .i64 (0), Value.int .i64 (0), Value.slice none 0 0, Value.bool (false)]) hM rfl ti_26 rfl fun g50 w hM => ?_)
                refine pl hS rfl (by decide) fun a hS => ?_
                refine wl_cons rfl (e_storeN (vs := [Value.int .i64 (e36.f_Kind), Value.int .i64 (0), Value.int .i64 (0), Value.slice none 0 0, Value.bool (false)]) hM rfl ti_26 (hS.ev_ rfl) (hS.ev_ rfl) (ones_cons rfl (ones_cons rfl (ones_cons rfl (ones_cons rfl (ones_cons rfl ones_nil))))) (Nat.le_of_ble_eq_true rfl) fun w hM => ?_)
                have hM : Sat w0 w K24 (SP.blk g50 26 [Value.int .i64 (e36.f_Kind), Value.int .i64 (0), Value.int .i64 (0), Value.slice none 0 0, Value.bool (false)] :: SP.blk g48 26 [Value.int .i64 (e36.f_Kind), Value.int .i64 (e36.f_Code), Value.int .i64 (e36.f_Option), v46, Value.bool (e36.f_Cut)] :: L) := hM
                refine pl0 hS rfl fun a hS => ?_
                refine st_done ?_
                replace hS : Slots 75 [] a [(9, Value.pointer (some ⟨g50, 0, none⟩)), (7, Value.int .i64 (x25)), (8, Value.pointer (some ⟨g48, 0, none⟩)), (36, Value.int .i64 (x25)), (35, Value.int .i64 ((p1.length : Int))), (34, v2), (2, Value.bool (false)), (5, v15)] := (hS.part (.cons rfl (.cons rfl (.cons rfl (.cons rfl (.cons rfl (.cons rfl (.cons rfl (.cons rfl (.nil _))))))))))
                refine x_then ?_
                obtain ⟨x52, h53, h⟩ := bindO h
                refine c_cut (fun a w => Slots 75 [] a [(2, Value.bool (false)), (5, v15), (7, Value.int .i64 (x25)), (8, Value.pointer (some ⟨g48, 0, none⟩)), (9, Value.pointer (some ⟨g50, 0, none⟩)), (34, v2), (35, Value.int .i64 ((p1.length : Int))), (36, Value.int .i64 (x25))] ∧ Sat w0 w K24 (SP.blk g50 26 [Value.int .i64 (e36.f_Kind), Value.int .i64 (x52), Value.int .i64 (0), Value.slice none 0 0, Value.bool (false)] :: SP.blk g48 26 [Value.int .i64 (e36.f_Kind), Value.int .i64 (e36.f_Code), Value.int .i64 (e36.f_Option), v46, Value.bool (e36.f_Cut)] :: L)) ?_ ?_
                ·
                  refine wp_seq ?_
                  refine wp_region_lit ?_
                  refine st_val hS rfl rfl (by decide) (r_fld_b rfl fo_26_0 (hS.ev_ rfl)) fun a hS => ?_
                  replace hM := hM.pull 1 rfl rfl
                  refine st_val hS rfl rfl (by decide) (r_ld1_b rfl ag_3 (hS.ev_ rfl) rfl (Rd.of hM)) fun a hS => ?_
                  refine st_val hS rfl rfl (by decide) (r_cmp rfl (hS.ev_ rfl) (hS.ev_ rfl) rfl) fun a hS => ?_
                  refine st_done ?_
                  replace hS : Slots 75 [] a [(46, Value.bool (e36.f_Kind != 4)), (9, Value.pointer (some ⟨g50, 0, none⟩)), (7, Value.int .i64 (x25)), (8, Value.pointer (some ⟨g48, 0, none⟩)), (36, Value.int .i64 (x25)), (35, Value.int .i64 ((p1.length : Int))), (34, v2), (2, Value.bool (false)), (5, v15)] := (hS.part (.cons rfl (.cons rfl (.cons rfl (.cons rfl (.cons rfl (.cons rfl (.cons rfl (.cons rfl (.cons rfl (.nil _)))))))))))
                  refine x_then ?_
                  rcases ifB h53 with ⟨hc54, h53⟩ | ⟨hc54, h53⟩
                  · refine c_cond_true (hS.ev_ rfl) hc54 ?_
                    refine wp_region_lit ?_
                    refine st_val hS rfl rfl (by decide) (r_fld_b rfl fo_26_1 (hS.ev_ rfl)) fun a hS => ?_
                    refine st_val hS rfl rfl (by decide) (r_ld1_b rfl ag_3 (hS.ev_ rfl) rfl (Rd.of hM)) fun a hS => ?_
                    refine st_val hS rfl rfl (by decide) (r_fld_b rfl fo_26_1 (hS.ev_ rfl)) fun a hS => ?_
                    replace hM := hM.pull 1 rfl rfl
                    refine wl_cons rfl (e_store1 hM rfl ti_3 (hS.ev_ rfl) (hS.ev_ rfl) rfl (Nat.lt_of_lt_of_le (Nat.le_of_ble_eq_true rfl) (Nat.le_refl _)) fun w hM => ?_)
                    have hM : Sat w0 w K24 (SP.blk g50 26 [Value.int .i64 (e36.f_Kind), Value.int .i64 (e36.f_Code), Value.int .i64 (0), Value.slice none 0 0, Value.bool (false)] :: SP.blk g48 26 [Value.int .i64 (e36.f_Kind), Value.int .i64 (e36.f_Code), Value.int .i64 (e36.f_Option), v46, Value.bool (e36.f_Cut)] :: L) := hM
                    refine pl0 hS rfl fun a hS => ?_
                    refine st_done ?_
                    replace hS : Slots 75 [] a [(9, Value.pointer (some ⟨g50, 0, none⟩)), (7, Value.int .i64 (x25)), (8, Value.pointer (some ⟨g48, 0, none⟩)), (36, Value.int .i64 (x25)), (35, Value.int .i64 ((p1.length : Int))), (34, v2), (2, Value.bool (false)), (5, v15)] := (hS.part (.cons rfl (.cons rfl (.cons rfl (.cons rfl (.cons rfl (.cons rfl (.cons rfl (.cons rfl (.nil _))))))))))
                    refine x_then ?_
                    obtain rfl := Option.some.inj h53
                    exact ⟨(hS.part (.cons rfl (.cons rfl (.cons rfl (.cons rfl (.cons rfl (.cons rfl (.cons rfl (.cons rfl (.nil _)))))))))), ((hM.pull 1 rfl rfl).pull 1 rfl rfl)⟩
                  · refine c_cond_false (hS.ev_ rfl) hc54 ?_
                    refine wp_skip ?_
                    refine x_then ?_
                    obtain rfl := Option.some.inj h53
                    exact ⟨(hS.part (.cons rfl (.cons rfl (.cons rfl (.cons rfl (.cons rfl (.cons rfl (.cons rfl (.cons rfl (.nil _)))))))))), (hM.pull 1 rfl rfl)⟩
                · rintro a w ⟨hS, hM⟩
                  obtain ⟨x55, h56, h⟩ := bindO h
                  refine c_cut (fun a w => Slots 75 [] a [(2, Value.bool (false)), (5, v15), (7, Value.int .i64 (x25)), (8, Value.pointer (some ⟨g48, 0, none⟩)), (9, Value.pointer (some ⟨g50, 0, none⟩)), (34, v2), (35, Value.int .i64 ((p1.length : Int))), (36, Value.int .i64 (x25))] ∧ Sat w0 w K24 (SP.blk g50 26 [Value.int .i64 (e36.f_Kind), Value.int .i64 (x52), Value.int .i64 (x55), Value.slice none 0 0, Value.bool (false)] :: SP.blk g48 26 [Value.int .i64 (e36.f_Kind), Value.int .i64 (e36.f_Code), Value.int .i64 (e36.f_Option), v46, Value.bool (e36.f_Cut)] :: L)) ?_ ?_
                  ·
                    refine wp_seq ?_
                    refine wp_region_lit ?_
                    refine st_val hS rfl rfl (by decide) (r_fld_b rfl fo_26_0 (hS.ev_ rfl)) fun a hS => ?_
                    replace hM := hM.pull 1 rfl rfl
                    refine st_val hS rfl rfl (by decide) (r_ld1_b rfl ag_3 (hS.ev_ rfl) rfl (Rd.of hM)) fun a hS => ?_
                    refine st_val hS rfl rfl (by decide) (r_cmp rfl (hS.ev_ rfl) (hS.ev_ rfl) rfl) fun a hS => ?_
                    refine st_val hS rfl rfl (by decide) (r_move rfl (hS.ev_ rfl)) fun a hS => ?_
                    obtain ⟨x57, h58, h56⟩ := bindO h56
                    refine wl_cut 4 (fun a w => Slots 75 [] a [(2, Value.bool (false)), (5, v15), (7, Value.int .i64 (x25)), (8, Value.pointer (some ⟨g48, 0, none⟩)), (9, Value.pointer (some ⟨g50, 0, none⟩)), (34, v2), (35, Value.int .i64 ((p1.length : Int))), (36, Value.int .i64 (x25)), (57, Value.bool (x57))] ∧ Sat w0 w K24 (SP.blk g48 26 [Value.int .i64 (e36.f_Kind), Value.int .i64 (e36.f_Code), Value.int .i64 (e36.f_Option), v46, Value.bool (e36.f_Cut)] :: SP.blk g50 26 [Value.int .i64 (e36.f_Kind), Value.int .i64 (x52), Value.int .i64 (0), Value.slice none 0 0, Value.bool (false)] :: L)) ?_ ?_
                    ·
                      skip
                      rcases ifB h58 with ⟨hc59, h58⟩ | ⟨hc59, h58⟩
                      ·
                        replace hS := hS.known (k := 53) rfl hc59
                        refine st_off hS rfl rfl rfl rfl rfl rfl (by decide) fun a hS => ?_
                        refine st_off hS rfl rfl rfl rfl rfl rfl (by decide) fun a hS => ?_
                        refine st_off hS rfl rfl rfl rfl rfl rfl (by decide) fun a hS => ?_
                        refine st_val hS rfl rfl (by decide) (r_pick_true rfl (hS.ev_ rfl) rfl (hS.ev_ rfl)) fun a hS => ?_
                        refine st_done ?_
                        replace hS : Slots 75 [] a [(57, Value.bool (true)), (2, Value.bool (false)), (5, v15), (7, Value.int .i64 (x25)), (8, Value.pointer (some ⟨g48, 0, none⟩)), (9, Value.pointer (some ⟨g50, 0, none⟩)), (34, v2), (35, Value.int .i64 ((p1.length : Int))), (36, Value.int .i64 (x25))] := (hS.part (.cons rfl (.cons rfl (.cons rfl (.cons rfl (.cons rfl (.cons rfl (.cons rfl (.cons rfl (.cons rfl (.nil _)))))))))))
                        refine x_then ?_
                        obtain rfl := Option.some.inj h58
                        exact ⟨(hS.part (.cons rfl (.cons rfl (.cons rfl (.cons rfl (.cons rfl (.cons rfl (.cons rfl (.cons rfl (.cons rfl (.nil _))))))))))), ((hM.pull 1 rfl rfl).pull 1 rfl rfl)⟩
                      ·
                        replace hS := hS.known (k := 53) rfl hc59
                        refine st_want hS rfl rfl rfl rfl rfl (by decide) (r_fld_b rfl fo_26_0 (hS.ev_ rfl)) fun a hS => ?_
                        refine st_want hS rfl rfl rfl rfl rfl (by decide) (r_ld1_b rfl ag_3 (hS.ev_ rfl) rfl (Rd.of hM)) fun a hS => ?_
                        refine st_want hS rfl rfl rfl rfl rfl (by decide) (r_cmp rfl (hS.ev_ rfl) (hS.ev_ rfl) rfl) fun a hS => ?_
                        refine st_val hS rfl rfl (by decide) (r_pick_false rfl (hS.ev_ rfl) rfl (hS.ev_ rfl)) fun a hS => ?_
                        refine st_done ?_
                        replace hS : Slots 75 [] a [(57, Value.bool (e36.f_Kind == 4)), (2, Value.bool (false)), (5, v15), (7, Value.int .i64 (x25)), (8, Value.pointer (some ⟨g48, 0, none⟩)), (9, Value.pointer (some ⟨g50, 0, none⟩)), (34, v2), (35, Value.int .i64 ((p1.length : Int))), (36, Value.int .i64 (x25))] := (hS.part (.cons rfl (.cons rfl (.cons rfl (.cons rfl (.cons rfl (.cons rfl (.cons rfl (.cons rfl (.cons rfl (.nil _)))))))))))
                        refine x_then ?_
                        obtain rfl := Option.some.inj h58
                        exact ⟨(hS.part (.cons rfl (.cons rfl (.cons rfl (.cons rfl (.cons rfl (.cons rfl (.cons rfl (.cons rfl (.cons rfl (.nil _))))))))))), ((hM.pull 1 rfl rfl).pull 1 rfl rfl)⟩
                    · rintro a w ⟨hS, hM⟩
                      refine st_done ?_
                      replace hS : Slots 75 [] a [(2, Value.bool (false)), (5, v15), (7, Value.int .i64 (x25)), (8, Value.pointer (some ⟨g48, 0, none⟩)), (9, Value.pointer (some ⟨g50, 0, none⟩)), (34, v2), (35, Value.int .i64 ((p1.length : Int))), (36, Value.int .i64 (x25)), (57, Value.bool (x57))] := (hS.part (.cons rfl (.cons rfl (.cons rfl (.cons rfl (.cons rfl (.cons rfl (.cons rfl (.cons rfl (.cons rfl (.nil _)))))))))))
                      refine x_then ?_
                      rcases ifB h56 with ⟨hc60, h56⟩ | ⟨hc60, h56⟩
                      · refine c_cond_true (hS.ev_ rfl) hc60 ?_
                        refine wp_region_lit ?_
                        refine st_val hS rfl rfl (by decide) (r_fld_b rfl fo_26_2 (hS.ev_ rfl)) fun a hS => ?_
                        refine st_val hS rfl rfl (by decide) (r_ld1_b rfl ag_3 (hS.ev_ rfl) rfl (Rd.of hM)) fun a hS => ?_
                        refine st_val hS rfl rfl (by decide) (r_fld_b rfl fo_26_2 (hS.ev_ rfl)) fun a hS => ?_
                        replace hM := hM.pull 1 rfl rfl
                        refine wl_cons rfl (e_store1 hM rfl ti_3 (hS.ev_ rfl) (hS.ev_ rfl) rfl (Nat.lt_of_lt_of_le (Nat.le_of_ble_eq_true rfl) (Nat.le_refl _)) fun w hM => ?_)
                        have hM : Sat w0 w K24 (SP.blk g50 26 [Value.int .i64 (e36.f_Kind), Value.int .i64 (x52), Value.int .i64 (e36.f_Option), Value.slice none 0 0, Value.bool (false)] :: SP.blk g48 26 [Value.int .i64 (e36.f_Kind), Value.int .i64 (e36.f_Code), Value.int .i64 (e36.f_Option), v46, Value.bool (e36.f_Cut)] :: L) := hM
                        refine pl0 hS rfl fun a hS => ?_
                        refine st_done ?_
                        replace hS : Slots 75 [] a [(2, Value.bool (false)), (5, v15), (7, Value.int .i64 (x25)), (8, Value.pointer (some ⟨g48, 0, none⟩)), (9, Value.pointer (some ⟨g50, 0, none⟩)), (34, v2), (35, Value.int .i64 ((p1.length : Int))), (36, Value.int .i64 (x25))] := (hS.part (.cons rfl (.cons rfl (.cons rfl (.cons rfl (.cons rfl (.cons rfl (.cons rfl (.cons rfl (.nil _))))))))))
                        refine x_then ?_
                        obtain rfl := Option.some.inj h56
                        exact ⟨(hS.part (.cons rfl (.cons rfl (.cons rfl (.cons rfl (.cons rfl (.cons rfl (.cons rfl (.cons rfl (.nil _)))))))))), ((hM.pull 1 rfl rfl).pull 1 rfl rfl)⟩
                      · refine c_cond_false (hS.ev_ rfl) hc60 ?_
                        refine wp_skip ?_
                        refine x_then ?_
                        obtain rfl := Option.some.inj h56
                        exact ⟨(hS.part (.cons rfl (.cons rfl (.cons rfl (.cons rfl (.cons rfl (.cons rfl (.cons rfl (.cons rfl (.nil _)))))))))), (hM.pull 1 rfl rfl)⟩
                  · rintro a w ⟨hS, hM⟩
                    obtain ⟨x61, h62, h⟩ := bindO h
                    refine c_cut (fun a w => ∃ (v63 : Value), Slots 75 [] a [(2, Value.bool (false)), (5, v15), (7, Value.int .i64 (x25)), (9, Value.pointer (some ⟨g50, 0, none⟩)), (34, v2), (35, Value.int .i64 ((p1.length : Int))), (36, Value.int .i64 (x25))] ∧ Sat w0 w K24 (SP.blk g50 26 [Value.int .i64 (e36.f_Kind), Value.int .i64 (x52), Value.int .i64 (x55), v63, Value.bool (false)] :: SP.blk g48 26 [Value.int .i64 (e36.f_Kind), Value.int .i64 (e36.f_Code), Value.int .i64 (e36.f_Option), v46, Value.bool (e36.f_Cut)] :: L) ∧ Kd.u8.sl K24 v63 x61) ?_ ?_
                    ·
                      refine wp_seq ?_
                      refine wp_region_lit ?_
                      refine st_val hS rfl rfl (by decide) (r_fld_b rfl fo_26_0 (hS.ev_ rfl)) fun a hS => ?_
                      replace hM := hM.pull 1 rfl rfl
                      refine st_val hS rfl rfl (by decide) (r_ld1_b rfl ag_3 (hS.ev_ rfl) rfl (Rd.of hM)) fun a hS => ?_
                      refine st_val hS rfl rfl (by decide) (r_cmp rfl (hS.ev_ rfl) (hS.ev_ rfl) rfl) fun a hS => ?_
                      refine st_done ?_
                      replace hS : Slots 75 [] a [(63, Value.bool (e36.f_Kind == 4)), (2, Value.bool (false)), (5, v15), (7, Value.int .i64 (x25)), (8, Value.pointer (some ⟨g48, 0, none⟩)), (9, Value.pointer (some ⟨g50, 0, none⟩)), (34, v2), (35, Value.int .i64 ((p1.length : Int))), (36, Value.int .i64 (x25))] := (hS.part (.cons rfl (.cons rfl (.cons rfl (.cons rfl (.cons rfl (.cons rfl (.cons rfl (.cons rfl (.cons rfl (.nil _)))))))))))
                      refine x_then ?_
                      rcases ifB h62 with ⟨hc65, h62⟩ | ⟨hc65, h62⟩
                      · refine c_cond_true (hS.ev_ rfl) hc65 ?_
                        refine wp_region_lit ?_
                        refine st_val hS rfl rfl (by decide) (r_fld_b rfl fo_26_3 (hS.ev_ rfl)) fun a hS => ?_
                        refine st_val hS rfl rfl (by decide) (r_ld1_b rfl ag_23 (hS.ev_ rfl) rfl (Rd.of hM)) fun a hS => ?_
                        refine st_val hS rfl rfl (by decide) (r_fld_b rfl fo_26_3 (hS.ev_ rfl)) fun a hS => ?_
                        replace hM := hM.pull 1 rfl rfl
                        refine wl_cons rfl (e_store1 hM rfl ti_23 (hS.ev_ rfl) (hS.ev_ rfl) (sl_one f47) (Nat.lt_of_lt_of_le (Nat.le_of_ble_eq_true rfl) (Nat.le_refl _)) fun w hM => ?_)
                        have hM : Sat w0 w K24 (SP.blk g50 26 [Value.int .i64 (e36.f_Kind), Value.int .i64 (x52), Value.int .i64 (x55), v46, Value.bool (false)] :: SP.blk g48 26 [Value.int .i64 (e36.f_Kind), Value.int .i64 (e36.f_Code), Value.int .i64 (e36.f_Option), v46, Value.bool (e36.f_Cut)] :: L) := hM
                        refine pl0 hS rfl fun a hS => ?_
                        refine st_done ?_
                        replace hS : Slots 75 [] a [(2, Value.bool (false)), (5, v15), (7, Value.int .i64 (x25)), (9, Value.pointer (some ⟨g50, 0, none⟩)), (34, v2), (35, Value.int .i64 ((p1.length : Int))), (36, Value.int .i64 (x25))] := (hS.part (.cons rfl (.cons rfl (.cons rfl (.cons rfl (.cons rfl (.cons rfl (.cons rfl (.nil _)))))))))
                        refine x_then ?_
                        obtain rfl := Option.some.inj h62
                        exact ⟨(v46), (hS.part (.cons rfl (.cons rfl (.cons rfl (.cons rfl (.cons rfl (.cons rfl (.cons rfl (.nil _))))))))), ((hM.pull 1 rfl rfl).pull 1 rfl rfl), (Kd.sl_mono ((hlK6.trans hlK13).trans hlK24) f47)⟩
                      · refine c_cond_false (hS.ev_ rfl) hc65 ?_
                        refine wp_skip ?_
                        refine x_then ?_
                        obtain rfl := Option.some.inj h62
                        exact ⟨(Value.slice none 0 0), (hS.part (.cons rfl (.cons rfl (.cons rfl (.cons rfl (.cons rfl (.cons rfl (.cons rfl (.nil _))))))))), (hM.pull 1 rfl rfl), (Kd.sl_nil _ _)⟩
                    · rintro a w ⟨v63, hS, hM, f64⟩
                      refine wp_seq ?_
                      refine tk_start #[false, false, false, false, false, false, false] mixed_ rfl rfl ?_
                      replace hM := hM.drew
                      generalize w.drew = w at hM ⊢
                      refine dk_any (i := 0) #[true, false, false, false, false, false, false] hS rfl (by kernel_rfl) rfl rfl (by decide) (fun w => r_move rfl (hS.ev_ rfl)) fun a hS => ?_
                      refine dk_any (i := 1) #[true, true, false, false, false, false, false] hS rfl (by kernel_rfl) rfl rfl (by decide) (fun w => r_move rfl (hS.ev_ rfl)) fun a hS => ?_
                      obtain ⟨e66, h67, h⟩ := bindO h
                      obtain ⟨ad68, cp69, cs70, hv71, hr72, h0_73, h1_74, hq75⟩ := sl_at f16 h67 (by decide)
                      obtain ⟨v76, rfl, f77⟩ := kiac_Token_open hr72
                      refine dk_any (i := 2) #[true, true, true, false, false, false, false] hS rfl (by kernel_rfl) rfl rfl (by decide) (fun w => r_idx_sl rfl un_22 ti_26 (hS.ev_ rfl) hv71 (hS.ev_ rfl) h0_73 h1_74) fun a hS => ?_
                      refine dk_val (i := 3) (S := Rd w0 K13 []) #[true, true, true, true, false, false, false] hS rfl (by kernel_rfl) rfl rfl (by decide) (Rd.up hlK24 hM.nil_) (fun w hR => r_ldN_k (cs' := [Value.int .i64 (e66.f_Kind), Value.int .i64 (e66.f_Code), Value.int .i64 (e66.f_Option), v76, Value.bool (e66.f_Cut)]) rfl ag_26 ti_26 (hS.ev_ rfl) hq75 rfl hR) fun a hS => ?_
                      refine dk_val (i := 4) (S := Rd w0 K24 [SP.blk g50 26 [Value.int .i64 (e36.f_Kind), Value.int .i64 (x52), Value.int .i64 (x55), v63, Value.bool (false)]]) #[true, true, true, true, true, false, false] hS rfl (by kernel_rfl) rfl rfl (by decide) (Rd.of hM.only) (fun w hR => r_ldN_b (cs' := [Value.int .i64 (e36.f_Kind), Value.int .i64 (x52), Value.int .i64 (x55), v63, Value.bool (false)]) rfl ag_26 ti_26 (hS.ev_ rfl) rfl hR) fun a hS => ?_
                      obtain ⟨y78, h79, h⟩ := bindO h
                      have hc81 := iac_Same_c hG h79 (Kd.sl_mono hlK24 f77) f64 hM
                      refine dk_one (i := 5) #[true, true, true, true, true, true, false] rfl (by kernel_rfl) rfl (e_call rfl Tryd.func13 rfl rfl (args2 (hS.ev_ rfl) (hS.ev_ rfl)) hc81 ?_)
                      rintro _ w ⟨K80, hlK80, hM, rfl⟩
                      refine ⟨_, rfl, ?_⟩
                      refine pT hS rfl (by decide) (Dem.wait (by kernel_rfl) (Dem.wait (by kernel_rfl) Dem.nil)) fun a hS => ?_
                      refine dk_any (i := 6) #[true, true, true, true, true, true, true] hS rfl (by kernel_rfl) rfl rfl (by decide) (fun w => r_not rfl (hS.ev_ rfl)) fun a hS => ?_
                      refine tk_done (by kernel_rfl) ?_
                      replace hS : Slots 75 [] a [(73, Value.bool (!y78)), (2, Value.bool (false)), (5, v15), (34, v2), (35, Value.int .i64 ((p1.length : Int))), (36, Value.int .i64 (x25))] := (hS.part (.cons rfl (.cons rfl (.cons rfl (.cons rfl (.cons rfl (.cons rfl (.nil _))))))))
                      refine x_then ?_
                      rcases ifB h with ⟨hc82, h⟩ | ⟨hc82, h⟩
                      · refine c_cond_true (hS.ev_ rfl) hc82 ?_
                        refine wp_seq ?_
                        refine wp_region_lit ?_
                        refine st_val hS rfl rfl (by decide) (r_assign rfl (hS.ev_ rfl)) fun a hS => ?_
                        refine st_done ?_
                        replace hS : Slots 75 [] a [(2, Value.bool (false)), (5, v15), (34, v2), (35, Value.int .i64 ((p1.length : Int))), (36, Value.int .i64 (x25))] := (hS.part (.cons rfl (.cons rfl (.cons rfl (.cons rfl (.cons rfl (.nil _)))))))
                        refine x_then ?_
                        refine wp_ret ?_
                        refine x_block_ret ?_
                        refine x_then_ret ?_
                        refine x_then_ret ?_
                        have ho' := (Option.some.inj h).trans hr
                        refine hQ _ _ _ ?_
                        exact .inr (⟨rfl, K80, (()), (hlK24.trans hlK80), ho'.symm, (hS.part (.cons rfl (.nil _))), ((hM).tail).tail⟩)
                      · refine c_cond_false (hS.ev_ rfl) hc82 ?_
                        refine wp_skip ?_
                        refine x_block ?_
                        refine x_then ?_
                        exact ⟨K80, hlK80, h, (hS.part (.cons rfl (.cons rfl (.cons rfl (.cons rfl (.cons rfl (.nil _))))))), ((hM).tail).tail⟩
              · rintro a w ⟨K33, hlK33, h35, hS, hM⟩
                simp only [k34] at h35
                refine wp_region_lit ?_
                refine st_val hS rfl rfl (by decide) (r_add rfl (hS.ev_ rfl) (hS.ev_ rfl)) fun a hS => ?_
                refine st_val hS rfl rfl (by decide) (r_move rfl (hS.ev_ rfl)) fun a hS => ?_
                refine st_done ?_
                replace hS : Slots 75 [] a [(36, Value.int .i64 (w64 (x25 + 1))), (2, Value.bool (false)), (5, v15), (34, v2), (35, Value.int .i64 ((p1.length : Int)))] := (hS.part (.cons rfl (.cons rfl (.cons rfl (.cons rfl (.cons rfl (.nil _)))))))
                refine x_then ?_
                exact ih (w64 (x25 + 1)) _ h35 hr K33 _ _ (hlK24.trans hlK33) (hS.part (.cons rfl (.cons rfl (.cons rfl (.cons rfl (.cons rfl (.nil _))))))) (hM)
            · refine c_cond_false (hS.ev_ rfl) hc32 ?_
              refine wp_exit ?_
              refine x_then_exit ?_
              refine x_then_exit ?_
              have ho' := (Option.some.inj h).trans hr
              refine hQ _ _ _ ?_
              exact .inl ⟨rfl, K24, (()), hlK24, ho'.symm, (hS.part (.cons rfl (.nil _))), hM⟩
          exact key 0 _ h27 rfl K13 _ _ (Hp.le.refl _) (hS.part (.cons rfl (.cons rfl (.cons rfl (.cons rfl (.cons rfl (.nil _))))))) (hM)
        · rintro e a w (⟨rfl, K28, x29, hlK28, ho', hS, hM⟩ | ⟨rfl, K30, x31, hlK30, ho', hS, hM⟩)
          · subst ho'
            dsimp only at h
            refine x_block_here ?_
            refine x_then ?_
            refine wp_seq ?_
            refine wp_region_lit ?_
            refine st_val hS rfl rfl (by decide) (r_assign rfl (hS.ev_ rfl)) fun a hS => ?_
            refine st_done ?_
            replace hS : Slots 75 [] a [(2, Value.bool (true))] := (hS.part (.cons rfl (.nil _)))
            refine x_then ?_
            refine wp_ret ?_
            have hr' := Option.some.inj h
            subst hr'
            refine ret1 (.inr rfl) hS rfl rfl ?_
            exact ⟨K28, ((hlK6.trans hlK13).trans hlK28), hM, rfl⟩
          · subst ho'
            dsimp only at h
            refine x_block_ret ?_
            refine x_then_ret ?_
            have hr' := Option.some.inj h
            subst hr'
            refine ret1 (.inr rfl) hS rfl rfl ?_
            exact ⟨K30, ((hlK6.trans hlK13).trans hlK30), hM, rfl⟩

theorem Law_EmitBack_c {w0 w : World} {K : Hp} {L : List SP} {p1 : List iac_Token} {p4 : List UInt8} {v2 : Value} {v5 : Value} {r : Bool} (hG : Glob w0) (h : Law_EmitBack p1 p4 = some r) (f3 : kiac_Token.sl K v2 p1) (f6 : Kd.u8.sl K v5 p4) (hM : Sat w0 w K (L)) :
    Calls Tryd.prog 3 #[v2, v5] w (fun e w' => ∃ (K' : Hp), Hp.le K K' ∧ Sat w0 w' K' (L) ∧ e = .returned (Value.bool (r))) := by
  refine enter_ (n := 41) (args := [v2, v5]) Tryd.func3 rfl rfl (Nat.le_of_ble_eq_true rfl) fun a hS => ?_
  replace hS : Slots 41 [] a [(0, v2), (1, v5)] := hS
  unfold Law_EmitBack at h
  refine wp_seq ?_
  refine wp_region_lit ?_
  refine st_val hS rfl rfl (by decide) (r_assign rfl (hS.ev_ rfl)) fun a hS => ?_
  refine st_done ?_
  replace hS : Slots 41 [] a [(4, Value.bool (false)), (0, v2), (1, v5)] := (hS.part (.cons rfl (.cons rfl (.cons rfl (.nil _)))))
  refine x_then ?_
  refine wp_seq ?_
  refine wp_seq ?_
  refine wp_region_lit ?_
  obtain ⟨y7, h8, h⟩ := bindO h
  have hc10 := Law_alive_c hG h8 hM
  refine wl_cons rfl (e_call rfl Tryd.func4 rfl rfl (args0 ) hc10 ?_)
  rintro _ w ⟨K9, hlK9, hM, rfl⟩
  refine ⟨_, rfl, ?_⟩
  refine pl hS rfl (by decide) fun a hS => ?_
  refine st_val hS rfl rfl (by decide) (r_not rfl (hS.ev_ rfl)) fun a hS => ?_
  refine st_done ?_
  replace hS : Slots 41 [] a [(10, Value.bool (!y7)), (4, Value.bool (false)), (0, v2), (1, v5)] := (hS.part (.cons rfl (.cons rfl (.cons rfl (.cons rfl (.nil _))))))
  refine x_then ?_
  rcases ifB h with ⟨hc11, h⟩ | ⟨hc11, h⟩
  · refine c_cond_true (hS.ev_ rfl) hc11 ?_
    refine wp_seq ?_
    refine wp_region_lit ?_
    refine st_val hS rfl rfl (by decide) (r_assign rfl (hS.ev_ rfl)) fun a hS => ?_
    refine st_done ?_
    replace hS : Slots 41 [] a [(4, Value.bool (false)), (0, v2), (1, v5)] := (hS.part (.cons rfl (.cons rfl (.cons rfl (.nil _)))))
    refine x_then ?_
    refine wp_ret ?_
    refine x_then_ret ?_
    have hr' := Option.some.inj h
    subst hr'
    refine ret1 (.inr rfl) hS rfl rfl ?_
    exact ⟨K9, hlK9, hM, rfl⟩
  · refine c_cond_false (hS.ev_ rfl) hc11 ?_
    refine wp_skip ?_
    refine x_then ?_
    refine wp_seq ?_
    refine wp_seq ?_
    refine wp_region_lit ?_
    refine st_val hS rfl rfl (by decide) (r_move rfl (hS.ev_ rfl)) fun a hS => ?_
    refine st_val hS rfl rfl (by decide) (r_len_sl rfl un_22 (hS.ev_ rfl) f3) fun a hS => ?_
    refine st_val hS rfl rfl (by decide) (r_cmp rfl (hS.ev_ rfl) (hS.ev_ rfl) rfl) fun a hS => ?_
    refine st_val hS rfl rfl (by decide) (r_move rfl (hS.ev_ rfl)) fun a hS => ?_
    obtain ⟨x12, h13, h⟩ := bindO h
    refine wl_cut 4 (fun a w => Slots 41 [] a [(0, v2), (1, v5), (4, Value.bool (false)), (18, Value.bool (x12))] ∧ Sat w0 w K9 (L)) ?_ ?_
    ·
      skip
      rcases ifB h13 with ⟨hc14, h13⟩ | ⟨hc14, h13⟩
      ·
        replace hS := hS.known (k := 14) rfl hc14
        refine st_off hS rfl rfl rfl rfl rfl rfl (by decide) fun a hS => ?_
        refine st_off hS rfl rfl rfl rfl rfl rfl (by decide) fun a hS => ?_
        refine st_off hS rfl rfl rfl rfl rfl rfl (by decide) fun a hS => ?_
        refine st_val hS rfl rfl (by decide) (r_pick_true rfl (hS.ev_ rfl) rfl (hS.ev_ rfl)) fun a hS => ?_
        refine st_done ?_
        replace hS : Slots 41 [] a [(18, Value.bool (true)), (4, Value.bool (false)), (0, v2), (1, v5)] := (hS.part (.cons rfl (.cons rfl (.cons rfl (.cons rfl (.nil _))))))
        refine x_then ?_
        obtain rfl := Option.some.inj h13
        exact ⟨(hS.part (.cons rfl (.cons rfl (.cons rfl (.cons rfl (.nil _)))))), hM⟩
      ·
        replace hS := hS.known (k := 14) rfl hc14
        refine st_want hS rfl rfl rfl rfl rfl (by decide) (r_move rfl (hS.ev_ rfl)) fun a hS => ?_
        refine st_want hS rfl rfl rfl rfl rfl (by decide) (r_len_sl rfl un_23 (hS.ev_ rfl) f6) fun a hS => ?_
        refine st_want hS rfl rfl rfl rfl rfl (by decide) (r_cmp rfl (hS.ev_ rfl) (hS.ev_ rfl) rfl) fun a hS => ?_
        refine st_val hS rfl rfl (by decide) (r_pick_false rfl (hS.ev_ rfl) rfl (hS.ev_ rfl)) fun a hS => ?_
        refine st_done ?_
        replace hS : Slots 41 [] a [(18, Value.bool (decide (((p4.length : Int)) > 600))), (4, Value.bool (false)), (0, v2), (1, v5)] := (hS.part (.cons rfl (.cons rfl (.cons rfl (.cons rfl (.nil _))))))
        refine x_then ?_
        obtain rfl := Option.some.inj h13
        exact ⟨(hS.part (.cons rfl (.cons rfl (.cons rfl (.cons rfl (.nil _)))))), hM⟩
    · rintro a w ⟨hS, hM⟩
      refine st_done ?_
      replace hS : Slots 41 [] a [(0, v2), (1, v5), (4, Value.bool (false)), (18, Value.bool (x12))] := (hS.part (.cons rfl (.cons rfl (.cons rfl (.cons rfl (.nil _))))))
      refine x_then ?_
      rcases ifB h with ⟨hc15, h⟩ | ⟨hc15, h⟩
      · refine c_cond_true (hS.ev_ rfl) hc15 ?_
        refine wp_seq ?_
        refine wp_region_lit ?_
        refine st_val hS rfl rfl (by decide) (r_assign rfl (hS.ev_ rfl)) fun a hS => ?_
        refine st_done ?_
        replace hS : Slots 41 [] a [(4, Value.bool (true)), (0, v2), (1, v5)] := (hS.part (.cons rfl (.cons rfl (.cons rfl (.nil _)))))
        refine x_then ?_
        refine wp_ret ?_
        refine x_then_ret ?_
        have hr' := Option.some.inj h
        subst hr'
        refine ret1 (.inr rfl) hS rfl rfl ?_
        exact ⟨K9, hlK9, hM, rfl⟩
      · refine c_cond_false (hS.ev_ rfl) hc15 ?_
        refine wp_skip ?_
        refine x_then ?_
        refine wp_seq ?_
        refine wp_seq ?_
        refine wp_region_lit ?_
        refine st_val hS rfl rfl (by decide) (r_move rfl (hS.ev_ rfl)) fun a hS => ?_
        refine st_val hS rfl rfl (by decide) (r_len_sl rfl un_22 (hS.ev_ rfl) f3) fun a hS => ?_
        refine st_val hS rfl rfl (by decide) (r_move rfl (hS.ev_ rfl)) fun a hS => ?_
        refine st_done ?_
        replace hS : Slots 41 [] a [(21, Value.int .i64 (0)), (20, Value.int .i64 ((p1.length : Int))), (19, v2), (0, v2), (1, v5), (4, Value.bool (false))] := (hS.part (.cons rfl (.cons rfl (.cons rfl (.cons rfl (.cons rfl (.cons rfl (.nil _))))))))
        refine x_then ?_
        refine wp_block ?_
        obtain ⟨o21, h22, h⟩ := bindO h
        refine c_loop_ways (fun e a w => (e = .exit 0 ∧ ∃ (K23 : Hp) (x24 : Unit), Hp.le K9 K23 ∧ o21 = Sum.inl x24 ∧ Slots 41 [] a [(0, v2), (1, v5), (4, Value.bool (false))] ∧ Sat w0 w K23 (L)) ∨ (e = .ret ∧ ∃ (K25 : Hp) (x26 : Unit), Hp.le K9 K25 ∧ o21 = Sum.inr x26 ∧ Slots 41 [] a [(4, Value.bool (true))] ∧ Sat w0 w K25 (L))) ?_ ?_
        · intro c Q hc hQ
          have key : ∀ (x20 : Int) (r' : Sum Unit Unit), Law_EmitBack_l1 p1 x20 = some r' → r' = o21 → ∀ (K19 : Hp) (a : Act) (w : World), Hp.le K9 K19 → Slots 41 [] a [(21, Value.int .i64 (x20)), (20, Value.int .i64 ((p1.length : Int))), (19, v2), (0, v2), (1, v5), (4, Value.bool (false))] → Sat w0 w K19 (L) → Rnd Tryd.prog c Q a w := by
            refine Law_EmitBack_l1.partial_correctness p1 _ ?_
            intro Law_EmitBack_l1_rec ih x20 r' h hr K19  a w hlK19 hS hM 
            subst hc
            refine c_round ?_
            refine wp_seq ?_
            refine wp_region_lit ?_
            refine st_val hS rfl rfl (by decide) (r_cmp rfl (hS.ev_ rfl) (hS.ev_ rfl) rfl) fun a hS => ?_
            refine st_done ?_
            replace hS : Slots 41 [] a [(22, Value.bool (decide (x20 < ((p1.length : Int))))), (21, Value.int .i64 (x20)), (20, Value.int .i64 ((p1.length : Int))), (19, v2), (0, v2), (1, v5), (4, Value.bool (false))] := (hS.part (.cons rfl (.cons rfl (.cons rfl (.cons rfl (.cons rfl (.cons rfl (.cons rfl (.nil _)))))))))
            refine x_then ?_
            refine wp_seq ?_
            rcases ifB h with ⟨hc27, h⟩ | ⟨hc27, h⟩
            · refine c_cond_true (hS.ev_ rfl) hc27 ?_
              refine wp_skip ?_
              refine x_then ?_
              refine wp_seq ?_
              refine wp_block ?_
              refine wp_seq ?_
              refine wp_region_lit ?_
              obtain ⟨e28, h29, h⟩ := bindO h
              obtain ⟨ad30, cp31, cs32, hv33, hr34, h0_35, h1_36, hq37⟩ := sl_at f3 h29 (by decide)
              obtain ⟨v38, rfl, f39⟩ := kiac_Token_open hr34
              refine st_val hS rfl rfl (by decide) (r_idx_sl rfl un_22 ti_26 (hS.ev_ rfl) hv33 (hS.ev_ rfl) h0_35 h1_36) fun a hS => ?_
              refine st_val hS rfl rfl (by decide) (r_ldN_k (cs' := [Value.int .i64 (e28.f_Kind), Value.int .i64 (e28.f_Code), Value.int .i64 (e28.f_Option), v38, Value.bool (e28.f_Cut)]) rfl ag_26 ti_26 (hS.ev_ rfl) hq37 rfl (Rd.up (hlK9.trans hlK19) hM.nil_)) fun a hS => ?_
              refine wl_cons rfl (e_alloc (cs := [Value.int .i64 (0), Value.int .i64 (0), Value.int .i64 (0), Value.slice none 0 0, Value.bool (false)]) hM rfl ti_26 rfl fun g40 w hM => ?_)
              refine pl hS rfl (by decide) fun a hS => ?_
              refine wl_cons rfl (e_storeN (vs := [Value.int .i64 (e28.f_Kind), Value.int .i64 (e28.f_Code), Value.int .i64 (e28.f_Option), v38, Value.bool (e28.f_Cut)]) hM rfl ti_26 (hS.ev_ rfl) (hS.ev_ rfl) (ones_cons rfl (ones_cons rfl (ones_cons rfl (ones_cons (sl_one f39) (ones_cons rfl ones_nil))))) (Nat.le_of_ble_eq_true rfl) fun w hM => ?_)
              have hM : Sat w0 w K19 (SP.blk g40 26 [Value.int .i64 (e28.f_Kind), Value.int .i64 (e28.f_Code), Value.int .i64 (e28.f_Option), v38, Value.bool (e28.f_Cut)] :: L) := hM
              refine pl0 hS rfl fun a hS => ?_
              refine st_done ?_
              replace hS : Slots 41 [] a [(6, Value.pointer (some ⟨g40, 0, none⟩)), (21, Value.int .i64 (x20)), (20, Value.int .i64 ((p1.length : Int))), (19, v2), (0, v2), (1, v5), (4, Value.bool (false))] := (hS.part (.cons rfl (.cons rfl (.cons rfl (.cons rfl (.cons rfl (.cons rfl (.cons rfl (.nil _)))))))))
              refine x_then ?_
              refine wp_seq ?_
              refine wp_region_lit ?_
              refine st_val hS rfl rfl (by decide) (r_fld_b rfl fo_26_3 (hS.ev_ rfl)) fun a hS => ?_
              refine st_val hS rfl rfl (by decide) (r_ld1_b rfl ag_23 (hS.ev_ rfl) rfl (Rd.of hM)) fun a hS => ?_
              refine st_val hS rfl rfl (by decide) (r_len_sl rfl un_23 (hS.ev_ rfl) f39) fun a hS => ?_
              refine st_val hS rfl rfl (by decide) (r_cmp rfl (hS.ev_ rfl) (hS.ev_ rfl) rfl) fun a hS => ?_
              refine st_done ?_
              replace hS : Slots 41 [] a [(28, Value.bool (decide (((e28.f_Body.length : Int)) > 400))), (21, Value.int .i64 (x20)), (20, Value.int .i64 ((p1.length : Int))), (19, v2), (0, v2), (1, v5), (4, Value.bool (false))] := (hS.part (.cons rfl (.cons rfl (.cons rfl (.cons rfl (.cons rfl (.cons rfl (.cons rfl (.nil _)))))))))
              refine x_then ?_
              rcases ifB h with ⟨hc42, h⟩ | ⟨hc42, h⟩
              · refine c_cond_true (hS.ev_ rfl) hc42 ?_
                refine wp_seq ?_
                refine wp_region_lit ?_
                refine st_val hS rfl rfl (by decide) (r_assign rfl (hS.ev_ rfl)) fun a hS => ?_
                refine st_done ?_
                replace hS : Slots 41 [] a [(4, Value.bool (true)), (21, Value.int .i64 (x20)), (20, Value.int .i64 ((p1.length : Int))), (19, v2), (0, v2), (1, v5)] := (hS.part (.cons rfl (.cons rfl (.cons rfl (.cons rfl (.cons rfl (.cons rfl (.nil _))))))))
                refine x_then ?_
                refine wp_ret ?_
                refine x_block_ret ?_
                refine x_then_ret ?_
                refine x_then_ret ?_
                have ho' := (Option.some.inj h).trans hr
                refine hQ _ _ _ ?_
                exact .inr (⟨rfl, K19, (()), hlK19, ho'.symm, (hS.part (.cons rfl (.nil _))), (hM).tail⟩)
              · refine c_cond_false (hS.ev_ rfl) hc42 ?_
                refine wp_skip ?_
                refine x_block ?_
                refine x_then ?_
                refine wp_region_lit ?_
                refine st_val hS rfl rfl (by decide) (r_add rfl (hS.ev_ rfl) (hS.ev_ rfl)) fun a hS => ?_
                refine st_val hS rfl rfl (by decide) (r_move rfl (hS.ev_ rfl)) fun a hS => ?_
                refine st_done ?_
                replace hS : Slots 41 [] a [(21, Value.int .i64 (w64 (x20 + 1))), (20, Value.int .i64 ((p1.length : Int))), (19, v2), (0, v2), (1, v5), (4, Value.bool (false))] := (hS.part (.cons rfl (.cons rfl (.cons rfl (.cons rfl (.cons rfl (.cons rfl (.nil _))))))))
                refine x_then ?_
                exact ih (w64 (x20 + 1)) _ h hr K19 _ _ hlK19 (hS.part (.cons rfl (.cons rfl (.cons rfl (.cons rfl (.cons rfl (.cons rfl (.nil _)))))))) ((hM).tail)
            · refine c_cond_false (hS.ev_ rfl) hc27 ?_
              refine wp_exit ?_
              refine x_then_exit ?_
              refine x_then_exit ?_
              have ho' := (Option.some.inj h).trans hr
              refine hQ _ _ _ ?_
              exact .inl ⟨rfl, K19, (()), hlK19, ho'.symm, (hS.part (.cons rfl (.cons rfl (.cons rfl (.nil _))))), hM⟩
          exact key 0 _ h22 rfl K9 _ _ (Hp.le.refl _) (hS.part (.cons rfl (.cons rfl (.cons rfl (.cons rfl (.cons rfl (.cons rfl (.nil _)))))))) (hM)
        · rintro e a w (⟨rfl, K23, x24, hlK23, ho', hS, hM⟩ | ⟨rfl, K25, x26, hlK25, ho', hS, hM⟩)
          · subst ho'
            dsimp only at h
            refine x_block_here ?_
            refine x_then ?_
            refine wp_seq ?_
            refine wp_region_lit ?_
            refine st_val hS rfl rfl (by decide) (r_move rfl (hS.ev_ rfl)) fun a hS => ?_
            obtain ⟨y43, h44, h⟩ := bindO h
            have hc46 := iac_All_c hG h44 (Kd.sl_mono (hlK9.trans hlK23) f6) hM
            refine wl_cons rfl (e_call rfl Tryd.func5 rfl rfl (args1 (hS.ev_ rfl)) hc46 ?_)
            rintro _ w ⟨K45, v47, hlK45, hM, rfl, f48⟩
            refine ⟨_, rfl, ?_⟩
            refine pl hS rfl (by decide) fun a hS => ?_
            refine st_val hS rfl rfl (by decide) (r_move rfl (hS.ev_ rfl)) fun a hS => ?_
            refine st_val hS rfl rfl (by decide) (r_extract rfl (hS.ev_ rfl) rfl) fun a hS => ?_
            refine st_val hS rfl rfl (by decide) (r_extract rfl (hS.ev_ rfl) rfl) fun a hS => ?_
            refine st_val hS rfl rfl (by decide) (r_assign rfl (hS.ev_ rfl)) fun a hS => ?_
            refine st_val hS rfl rfl (by decide) (r_assign rfl (hS.ev_ rfl)) fun a hS => ?_
            refine st_done ?_
            replace hS : Slots 41 [] a [(7, v47), (0, v2), (4, Value.bool (false))] := (hS.part (.cons rfl (.cons rfl (.cons rfl (.nil _)))))
            refine x_then ?_
            refine wp_seq ?_
            refine wp_region_lit ?_
            refine st_val hS rfl rfl (by decide) (r_move rfl (hS.ev_ rfl)) fun a hS => ?_
            obtain ⟨y49, h50, h⟩ := bindO h
            have hc52 := Law_back_c hG h50 (Kd.sl_mono ((hlK9.trans hlK23).trans hlK45) f3) hM
            refine wl_cons rfl (e_call rfl Tryd.func6 rfl rfl (args1 (hS.ev_ rfl)) hc52 ?_)
            rintro _ w ⟨K51, hlK51, hM, rfl⟩
            refine ⟨_, rfl, ?_⟩
            refine pl hS rfl (by decide) fun a hS => ?_
            refine st_val hS rfl rfl (by decide) (r_move rfl (hS.ev_ rfl)) fun a hS => ?_
            obtain ⟨x54, h55, h⟩ := bindO h
            refine wl_cut 3 (fun a w => ∃ (K53 : Hp), Hp.le K51 K53 ∧ Slots 41 [] a [(4, Value.bool (false)), (40, Value.bool (x54))] ∧ Sat w0 w K53 (L)) ?_ ?_
            ·
              skip
              rcases ifB h55 with ⟨hc56, h55⟩ | ⟨hc56, h55⟩
              ·
                replace hS := hS.known (k := 37) rfl hc56
                refine st_want hS rfl rfl rfl rfl rfl (by decide) (r_move rfl (hS.ev_ rfl)) fun a hS => ?_
                obtain ⟨y57, h58, h55⟩ := bindO h55
                have hc60 := Law_back_c hG h58 (Kd.sl_mono hlK51 f48) hM
                refine g_want hS rfl rfl rfl rfl (e_call rfl Tryd.func6 rfl rfl (args1 (hS.ev_ rfl)) hc60 ?_)
                rintro _ w ⟨K59, hlK59, hM, rfl⟩
                refine ⟨_, rfl, ?_⟩
                refine pl hS rfl (by decide) fun a hS => ?_
                refine st_val hS rfl rfl (by decide) (r_pick_true rfl (hS.ev_ rfl) rfl (hS.ev_ rfl)) fun a hS => ?_
                refine st_done ?_
                replace hS : Slots 41 [] a [(40, Value.bool (y57)), (4, Value.bool (false))] := (hS.part (.cons rfl (.cons rfl (.nil _))))
                refine x_then ?_
                obtain rfl := Option.some.inj h55
                exact ⟨K59, hlK59, (hS.part (.cons rfl (.cons rfl (.nil _)))), hM⟩
              ·
                replace hS := hS.known (k := 37) rfl hc56
                refine st_off hS rfl rfl rfl rfl rfl rfl (by decide) fun a hS => ?_
                refine st_off hS rfl rfl rfl rfl rfl rfl (by decide) fun a hS => ?_
                refine st_val hS rfl rfl (by decide) (r_pick_false rfl (hS.ev_ rfl) rfl (hS.ev_ rfl)) fun a hS => ?_
                refine st_done ?_
                replace hS : Slots 41 [] a [(40, Value.bool (false)), (4, Value.bool (false))] := (hS.part (.cons rfl (.cons rfl (.nil _))))
                refine x_then ?_
                obtain rfl := Option.some.inj h55
                exact ⟨K51, (Hp.le.refl _), (hS.part (.cons rfl (.cons rfl (.nil _)))), hM⟩
            · rintro a w ⟨K53, hlK53, hS, hM⟩
              refine st_val hS rfl rfl (by decide) (r_assign rfl (hS.ev_ rfl)) fun a hS => ?_
              refine st_done ?_
              replace hS : Slots 41 [] a [(4, Value.bool (x54))] := (hS.part (.cons rfl (.nil _)))
              refine x_then ?_
              refine wp_ret ?_
              have hr' := Option.some.inj h
              subst hr'
              refine ret1 (.inr rfl) hS rfl rfl ?_
              exact ⟨K53, ((((hlK9.trans hlK23).trans hlK45).trans hlK51).trans hlK53), hM, rfl⟩
          · subst ho'
            dsimp only at h
            refine x_block_ret ?_
            refine x_then_ret ?_
            have hr' := Option.some.inj h
            subst hr'
            refine ret1 (.inr rfl) hS rfl rfl ?_
            exact ⟨K25, (hlK9.trans hlK25), hM, rfl⟩

end Go.Proofs.YtboggehfnokmfaaDoor
