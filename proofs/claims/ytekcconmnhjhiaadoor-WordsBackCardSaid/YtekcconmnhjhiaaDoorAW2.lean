/-
  What the code computes: plain functions, and the walks.: the walks, part 2.
-/
import Derived.Test.YtekcconmnhjhiaaDoorAW1
set_option linter.unusedVariables false
set_option linter.unusedSimpArgs false
set_option maxRecDepth 10000
set_option maxHeartbeats 1000000
namespace Go.Proofs.YtekcconmnhjhiaaDoor
open Go Go.RowKit Sl

theorem W_reader_sign_c {w0 w : World} {K : Hp} {L : List SP} {p1 : W_reader} {g2 : Nat} {r : W_Token × (Option Nat) × W_reader} (hG : Glob w0) (h : W_reader_sign p1 = some r) (hM : Sat w0 w K (SP.blk g2 62 [strV (p1.f_s), Value.int .i64 (p1.f_at)] :: L)) :
    Calls Tryd.prog 43 #[Value.pointer (some ⟨g2, 0, none⟩)] w (fun e w' => ∃ (K' : Hp) (v'1 : Value), Hp.le K K' ∧ Sat w0 w' K' (SP.blk g2 62 [strV (r.2.2.f_s), Value.int .i64 (r.2.2.f_at)] :: L) ∧ e = .returned (Value.tuple #[Value.agg #[Value.int .i64 (r.1.f_Kind), strV (r.1.f_Text), Value.int .i64 (r.1.f_Number), v'1, Value.int .i64 (r.1.f_At)], eV w0 r.2.1]) ∧ kW_Piece.sl K' v'1 r.1.f_Pieces) := by
  refine enter_ (n := 37) (args := [Value.pointer (some ⟨g2, 0, none⟩)]) Tryd.func43 rfl rfl (Nat.le_of_ble_eq_true rfl) fun a hS => ?_
  replace hS : Slots 37 [] a [(0, Value.pointer (some ⟨g2, 0, none⟩))] := hS
  unfold W_reader_sign at h
  refine wp_seq ?_
  refine wp_region_lit ?_
  refine wl_cons rfl (e_alloc (cs := [Value.int .i64 (0), strV (([] : List UInt8)), Value.int .i64 (0), Value.slice none 0 0, Value.int .i64 (0)]) hM rfl ti_24 rfl fun g3 w hM => ?_)
  refine pl hS rfl (by decide) fun a hS => ?_
  refine st_val hS rfl rfl (by decide) (r_assign rfl (hS.ev_ rfl)) fun a hS => ?_
  refine st_done ?_
  replace hS : Slots 37 [] a [(3, eV w0 ((none : Option Nat))), (2, Value.pointer (some ⟨g3, 0, none⟩)), (0, Value.pointer (some ⟨g2, 0, none⟩))] := (hS.part (.cons rfl (.cons rfl (.cons rfl (.nil _)))))
  refine x_then ?_
  refine wp_seq ?_
  refine wp_seq ?_
  refine wp_region_lit ?_
  refine wl_cons rfl (e_litK (d := Kd.str) (e := 9) (cs := [strV (([61, 61] : List UInt8)), strV (([33, 61] : List UInt8)), strV (([60, 61] : List UInt8)), strV (([62, 61] : List UInt8)), strV (([123] : List UInt8)), strV (([125] : List UInt8)), strV (([60] : List UInt8)), strV (([62] : List UInt8))]) (xs := [([61, 61] : List UInt8), ([33, 61] : List UInt8), ([60, 61] : List UInt8), ([62, 61] : List UInt8), ([123] : List UInt8), ([125] : List UInt8), ([60] : List UInt8), ([62] : List UInt8)]) hM rfl (parts_ev hS rfl) (by kernel_rfl) ⟨[strV (([61, 61] : List UInt8))], [strV (([33, 61] : List UInt8)), strV (([60, 61] : List UInt8)), strV (([62, 61] : List UInt8)), strV (([123] : List UInt8)), strV (([125] : List UInt8)), strV (([60] : List UInt8)), strV (([62] : List UInt8))], rfl, rfl, ⟨[strV (([33, 61] : List UInt8))], [strV (([60, 61] : List UInt8)), strV (([62, 61] : List UInt8)), strV (([123] : List UInt8)), strV (([125] : List UInt8)), strV (([60] : List UInt8)), strV (([62] : List UInt8))], rfl, rfl, ⟨[strV (([60, 61] : List UInt8))], [strV (([62, 61] : List UInt8)), strV (([123] : List UInt8)), strV (([125] : List UInt8)), strV (([60] : List UInt8)), strV (([62] : List UInt8))], rfl, rfl, ⟨[strV (([62, 61] : List UInt8))], [strV (([123] : List UInt8)), strV (([125] : List UInt8)), strV (([60] : List UInt8)), strV (([62] : List UInt8))], rfl, rfl, ⟨[strV (([123] : List UInt8))], [strV (([125] : List UInt8)), strV (([60] : List UInt8)), strV (([62] : List UInt8))], rfl, rfl, ⟨[strV (([125] : List UInt8))], [strV (([60] : List UInt8)), strV (([62] : List UInt8))], rfl, rfl, ⟨[strV (([60] : List UInt8))], [strV (([62] : List UInt8))], rfl, rfl, ⟨[strV (([62] : List UInt8))], [], rfl, rfl, rfl⟩⟩⟩⟩⟩⟩⟩⟩ rfl (by decide) fun v5 K6 w hlK6 hM f7 => ?_)
  refine pl hS rfl (by decide) fun a hS => ?_
  refine st_val hS rfl rfl (by decide) (r_len_sl rfl un_76 (hS.ev_ rfl) f7) fun a hS => ?_
  refine st_val hS rfl rfl (by decide) (r_move rfl (hS.ev_ rfl)) fun a hS => ?_
  refine st_done ?_
  replace hS : Slots 37 [] a [(8, Value.int .i64 (0)), (7, Value.int .i64 ((([([61, 61] : List UInt8), ([33, 61] : List UInt8), ([60, 61] : List UInt8), ([62, 61] : List UInt8), ([123] : List UInt8), ([125] : List UInt8), ([60] : List UInt8), ([62] : List UInt8)]).length : Int))), (6, v5), (3, eV w0 ((none : Option Nat))), (2, Value.pointer (some ⟨g3, 0, none⟩)), (0, Value.pointer (some ⟨g2, 0, none⟩))] := (hS.part (.cons rfl (.cons rfl (.cons rfl (.cons rfl (.cons rfl (.cons rfl (.nil _))))))))
  refine x_then ?_
  refine wp_block ?_
  obtain ⟨o13, h14, h⟩ := bindO h
  refine c_loop_ways (fun e a w => (e = .exit 0 ∧ ∃ (K15 : Hp) (x16 : Unit), Hp.le K6 K15 ∧ o13 = Sum.inl x16 ∧ Slots 37 [] a [(2, Value.pointer (some ⟨g3, 0, none⟩)), (3, eV w0 ((none : Option Nat)))] ∧ Sat w0 w K15 (SP.blk g3 24 [Value.int .i64 (0), strV (([] : List UInt8)), Value.int .i64 (0), Value.slice none 0 0, Value.int .i64 (0)] :: SP.blk g2 62 [strV (p1.f_s), Value.int .i64 (p1.f_at)] :: L)) ∨ (e = .ret ∧ ∃ (K17 : Hp) (x18 : Int × (List UInt8) × Int), Hp.le K6 K17 ∧ o13 = Sum.inr x18 ∧ Slots 37 [] a [(2, Value.pointer (some ⟨g3, 0, none⟩)), (3, eV w0 ((none : Option Nat)))] ∧ Sat w0 w K17 (SP.blk g3 24 [Value.int .i64 (x18.1), strV (x18.2.1), Value.int .i64 (0), Value.slice none 0 0, Value.int .i64 (0)] :: SP.blk g2 62 [strV (p1.f_s), Value.int .i64 (x18.2.2)] :: L))) ?_ ?_
  · intro c Q hc hQ
    have key : ∀ (x12 : Int) (r' : Sum Unit (Int × (List UInt8) × Int)), W_reader_sign_l1 p1 x12 = some r' → r' = o13 → ∀ (K11 : Hp) (a : Act) (w : World), Hp.le K6 K11 → Slots 37 [] a [(8, Value.int .i64 (x12)), (7, Value.int .i64 ((([([61, 61] : List UInt8), ([33, 61] : List UInt8), ([60, 61] : List UInt8), ([62, 61] : List UInt8), ([123] : List UInt8), ([125] : List UInt8), ([60] : List UInt8), ([62] : List UInt8)]).length : Int))), (6, v5), (3, eV w0 ((none : Option Nat))), (2, Value.pointer (some ⟨g3, 0, none⟩)), (0, Value.pointer (some ⟨g2, 0, none⟩))] → Sat w0 w K11 (SP.blk g3 24 [Value.int .i64 (0), strV (([] : List UInt8)), Value.int .i64 (0), Value.slice none 0 0, Value.int .i64 (0)] :: SP.blk g2 62 [strV (p1.f_s), Value.int .i64 (p1.f_at)] :: L) → Rnd Tryd.prog c Q a w := by
      refine W_reader_sign_l1.partial_correctness p1 _ ?_
      intro W_reader_sign_l1_rec ih x12 r' h hr K11  a w hlK11 hS hM 
      subst hc
      refine c_round ?_
      refine wp_seq ?_
      refine wp_region_lit ?_
      refine st_val hS rfl rfl (by decide) (r_cmp rfl (hS.ev_ rfl) (hS.ev_ rfl) rfl) fun a hS => ?_
      refine st_done ?_
      replace hS : Slots 37 [] a [(9, Value.bool (decide (x12 < ((([([61, 61] : List UInt8), ([33, 61] : List UInt8), ([60, 61] : List UInt8), ([62, 61] : List UInt8), ([123] : List UInt8), ([125] : List UInt8), ([60] : List UInt8), ([62] : List UInt8)]).length : Int))))), (8, Value.int .i64 (x12)), (7, Value.int .i64 ((([([61, 61] : List UInt8), ([33, 61] : List UInt8), ([60, 61] : List UInt8), ([62, 61] : List UInt8), ([123] : List UInt8), ([125] : List UInt8), ([60] : List UInt8), ([62] : List UInt8)]).length : Int))), (6, v5), (3, eV w0 ((none : Option Nat))), (2, Value.pointer (some ⟨g3, 0, none⟩)), (0, Value.pointer (some ⟨g2, 0, none⟩))] := (hS.part (.cons rfl (.cons rfl (.cons rfl (.cons rfl (.cons rfl (.cons rfl (.cons rfl (.nil _)))))))))
      refine x_then ?_
      refine wp_seq ?_
      rcases ifB h with ⟨hc19, h⟩ | ⟨hc19, h⟩
      · refine c_cond_true (hS.ev_ rfl) hc19 ?_
        refine wp_skip ?_
        refine x_then ?_
        refine wp_seq ?_
        refine wp_block ?_
        refine wp_seq ?_
        refine wp_region_lit ?_
        obtain ⟨e20, h21, h⟩ := bindO h
        obtain ⟨ad22, cp23, cs24, hv25, hr26, h0_27, h1_28, hq29⟩ := sl_at f7 h21 (by decide)
        obtain rfl := hr26
        refine st_val hS rfl rfl (by decide) (r_idx_sl rfl un_76 ti_9 (hS.ev_ rfl) hv25 (hS.ev_ rfl) h0_27 h1_28) fun a hS => ?_
        refine st_val hS rfl rfl (by decide) (r_ld1_k rfl ag_9 (hS.ev_ rfl) hq29 rfl (Rd.up hlK11 hM.nil_)) fun a hS => ?_
        refine st_val hS rfl rfl (by decide) (r_assign rfl (hS.ev_ rfl)) fun a hS => ?_
        refine st_done ?_
        replace hS : Slots 37 [] a [(5, strV (e20)), (8, Value.int .i64 (x12)), (7, Value.int .i64 ((([([61, 61] : List UInt8), ([33, 61] : List UInt8), ([60, 61] : List UInt8), ([62, 61] : List UInt8), ([123] : List UInt8), ([125] : List UInt8), ([60] : List UInt8), ([62] : List UInt8)]).length : Int))), (6, v5), (3, eV w0 ((none : Option Nat))), (2, Value.pointer (some ⟨g3, 0, none⟩)), (0, Value.pointer (some ⟨g2, 0, none⟩))] := (hS.part (.cons rfl (.cons rfl (.cons rfl (.cons rfl (.cons rfl (.cons rfl (.cons rfl (.nil _)))))))))
        refine x_then ?_
        refine wp_seq ?_
        refine tk_start #[false, false, false, false, false, false, false, false, false, false, false] mixed_ rfl rfl ?_
        replace hM := hM.drew
        generalize w.drew = w at hM ⊢
        refine dk_any (i := 0) #[true, false, false, false, false, false, false, false, false, false, false] hS rfl (by kernel_rfl) rfl rfl (by decide) (fun w => r_move rfl (hS.ev_ rfl)) fun a hS => ?_
        refine dk_any (i := 1) #[true, true, false, false, false, false, false, false, false, false, false] hS rfl (by kernel_rfl) rfl rfl (by decide) (fun w => r_nilCheck rfl (hS.ev_ rfl)) fun a hS => ?_
        refine dk_any (i := 2) #[true, true, true, false, false, false, false, false, false, false, false] hS rfl (by kernel_rfl) rfl rfl (by decide) (fun w => r_fld_b rfl fo_62_0 (hS.ev_ rfl)) fun a hS => ?_
        replace hM := hM.pull 1 rfl rfl
        refine dk_val (i := 3) (S := Rd w0 K11 [SP.blk g2 62 [strV (p1.f_s), Value.int .i64 (p1.f_at)]]) #[true, true, true, true, false, false, false, false, false, false, false] hS rfl (by kernel_rfl) rfl rfl (by decide) (Rd.of hM.only) (fun w hR => r_ld1_b rfl ag_9 (hS.ev_ rfl) rfl hR) fun a hS => ?_
        refine dk_any (i := 4) #[true, true, true, true, true, false, false, false, false, false, false] hS rfl (by kernel_rfl) rfl rfl (by decide) (fun w => r_move rfl (hS.ev_ rfl)) fun a hS => ?_
        refine dk_any (i := 5) #[true, true, true, true, true, true, false, false, false, false, false] hS rfl (by kernel_rfl) rfl rfl (by decide) (fun w => r_nilCheck rfl (hS.ev_ rfl)) fun a hS => ?_
        refine dk_any (i := 6) #[true, true, true, true, true, true, true, false, false, false, false] hS rfl (by kernel_rfl) rfl rfl (by decide) (fun w => r_fld_b rfl fo_62_1 (hS.ev_ rfl)) fun a hS => ?_
        refine dk_val (i := 7) (S := Rd w0 K11 [SP.blk g2 62 [strV (p1.f_s), Value.int .i64 (p1.f_at)]]) #[true, true, true, true, true, true, true, true, false, false, false] hS rfl (by kernel_rfl) rfl rfl (by decide) (Rd.of hM.only) (fun w hR => r_ld1_b rfl ag_3 (hS.ev_ rfl) rfl hR) fun a hS => ?_
        obtain ⟨s30, h31, h⟩ := bindO h
        refine dk_any (i := 8) #[true, true, true, true, true, true, true, true, true, false, false] hS rfl (by kernel_rfl) rfl rfl (by decide) (fun w => r_cut_s (k' := .i64) rfl un_9 (hS.ev_ rfl) (.inl (congrArg some (hS.ev_ rfl))) (.inr ⟨rfl, rfl⟩) h31) fun a hS => ?_
        refine dk_any (i := 9) #[true, true, true, true, true, true, true, true, true, true, false] hS rfl (by kernel_rfl) rfl rfl (by decide) (fun w => r_move rfl (hS.ev_ rfl)) fun a hS => ?_
        obtain ⟨y32, h33, h⟩ := bindO h
        have hc35 := strings_HasPrefix_c hG h33 hM
        refine dk_one (i := 10) #[true, true, true, true, true, true, true, true, true, true, true] rfl (by kernel_rfl) rfl (e_call rfl Tryd.func47 rfl rfl (args2 (hS.ev_ rfl) (hS.ev_ rfl)) hc35 ?_)
        rintro _ w ⟨K34, hlK34, hM, rfl⟩
        refine ⟨_, rfl, ?_⟩
        refine pT hS rfl (by decide) (Dem.wait (by kernel_rfl) (Dem.wait (by kernel_rfl) Dem.nil)) fun a hS => ?_
        refine tk_done (by kernel_rfl) ?_
        replace hS : Slots 37 [] a [(22, Value.bool (y32)), (5, strV (e20)), (8, Value.int .i64 (x12)), (7, Value.int .i64 ((([([61, 61] : List UInt8), ([33, 61] : List UInt8), ([60, 61] : List UInt8), ([62, 61] : List UInt8), ([123] : List UInt8), ([125] : List UInt8), ([60] : List UInt8), ([62] : List UInt8)]).length : Int))), (6, v5), (3, eV w0 ((none : Option Nat))), (2, Value.pointer (some ⟨g3, 0, none⟩)), (0, Value.pointer (some ⟨g2, 0, none⟩))] := (hS.part (.cons rfl (.cons rfl (.cons rfl (.cons rfl (.cons rfl (.cons rfl (.cons rfl (.cons rfl (.nil _))))))))))
        refine x_then ?_
        rcases ifB h with ⟨hc36, h⟩ | ⟨hc36, h⟩
        · refine c_cond_true (hS.ev_ rfl) hc36 ?_
          refine wp_seq ?_
          refine wp_region_lit ?_
          refine st_val hS rfl rfl (by decide) (r_move rfl (hS.ev_ rfl)) fun a hS => ?_
          refine st_val hS rfl rfl (by decide) (r_nilCheck rfl (hS.ev_ rfl)) fun a hS => ?_
          refine st_val hS rfl rfl (by decide) (r_fld_b rfl fo_62_1 (hS.ev_ rfl)) fun a hS => ?_
          refine st_val hS rfl rfl (by decide) (r_ld1_b rfl ag_3 (hS.ev_ rfl) rfl (Rd.of hM)) fun a hS => ?_
          refine st_val hS rfl rfl (by decide) (r_move rfl (hS.ev_ rfl)) fun a hS => ?_
          refine st_val hS rfl rfl (by decide) (r_len_str rfl un_9 (hS.ev_ rfl)) fun a hS => ?_
          refine st_val hS rfl rfl (by decide) (r_add rfl (hS.ev_ rfl) (hS.ev_ rfl)) fun a hS => ?_
          refine st_val hS rfl rfl (by decide) (r_nilCheck rfl (hS.ev_ rfl)) fun a hS => ?_
          refine st_val hS rfl rfl (by decide) (r_fld_b rfl fo_62_1 (hS.ev_ rfl)) fun a hS => ?_
          refine wl_cons rfl (e_store1 hM rfl ti_3 (hS.ev_ rfl) (hS.ev_ rfl) rfl (Nat.lt_of_lt_of_le (Nat.le_of_ble_eq_true rfl) (Nat.le_refl _)) fun w hM => ?_)
          have hM : Sat w0 w K34 (SP.blk g2 62 [strV (p1.f_s), Value.int .i64 (w64 (p1.f_at + ((e20.length : Int))))] :: SP.blk g3 24 [Value.int .i64 (0), strV (([] : List UInt8)), Value.int .i64 (0), Value.slice none 0 0, Value.int .i64 (0)] :: L) := hM
          refine pl0 hS rfl fun a hS => ?_
          refine st_done ?_
          replace hS : Slots 37 [] a [(5, strV (e20)), (8, Value.int .i64 (x12)), (7, Value.int .i64 ((([([61, 61] : List UInt8), ([33, 61] : List UInt8), ([60, 61] : List UInt8), ([62, 61] : List UInt8), ([123] : List UInt8), ([125] : List UInt8), ([60] : List UInt8), ([62] : List UInt8)]).length : Int))), (6, v5), (3, eV w0 ((none : Option Nat))), (2, Value.pointer (some ⟨g3, 0, none⟩)), (0, Value.pointer (some ⟨g2, 0, none⟩))] := (hS.part (.cons rfl (.cons rfl (.cons rfl (.cons rfl (.cons rfl (.cons rfl (.cons rfl (.nil _)))))))))
          refine x_then ?_
          refine wp_seq ?_
          refine wp_region_lit ?_
          refine st_val hS rfl rfl (by decide) (r_move rfl (hS.ev_ rfl)) fun a hS => ?_
          refine st_val hS rfl rfl (by decide) (r_build (cs := [Value.int .i64 (4), strV (e20), Value.int .i64 (0), Value.slice none 0 0, Value.int .i64 (0)]) rfl (parts_ev hS rfl) (by kernel_rfl)) fun a hS => ?_
          replace hM := hM.pull 1 rfl rfl
          refine wl_cons rfl (e_storeN (vs := [Value.int .i64 (4), strV (e20), Value.int .i64 (0), Value.slice none 0 0, Value.int .i64 (0)]) hM rfl ti_24 (hS.ev_ rfl) (hS.ev_ rfl) (ones_cons rfl (ones_cons rfl (ones_cons rfl (ones_cons rfl (ones_cons rfl ones_nil))))) (Nat.le_of_ble_eq_true rfl) fun w hM => ?_)
          have hM : Sat w0 w K34 (SP.blk g3 24 [Value.int .i64 (4), strV (e20), Value.int .i64 (0), Value.slice none 0 0, Value.int .i64 (0)] :: SP.blk g2 62 [strV (p1.f_s), Value.int .i64 (w64 (p1.f_at + ((e20.length : Int))))] :: L) := hM
          refine pl0 hS rfl fun a hS => ?_
          refine st_val hS rfl rfl (by decide) (r_assign rfl (hS.ev_ rfl)) fun a hS => ?_
          refine st_done ?_
          replace hS : Slots 37 [] a [(3, eV w0 ((none : Option Nat))), (8, Value.int .i64 (x12)), (7, Value.int .i64 ((([([61, 61] : List UInt8), ([33, 61] : List UInt8), ([60, 61] : List UInt8), ([62, 61] : List UInt8), ([123] : List UInt8), ([125] : List UInt8), ([60] : List UInt8), ([62] : List UInt8)]).length : Int))), (6, v5), (2, Value.pointer (some ⟨g3, 0, none⟩)), (0, Value.pointer (some ⟨g2, 0, none⟩))] := (hS.part (.cons rfl (.cons rfl (.cons rfl (.cons rfl (.cons rfl (.cons rfl (.nil _))))))))
          refine x_then ?_
          refine wp_ret ?_
          refine x_block_ret ?_
          refine x_then_ret ?_
          refine x_then_ret ?_
          have ho' := (Option.some.inj h).trans hr
          refine hQ _ _ _ ?_
          exact .inr (⟨rfl, K34, ((4, e20, w64 (p1.f_at + ((e20.length : Int))))), (hlK11.trans hlK34), ho'.symm, (hS.part (.cons rfl (.cons rfl (.nil _)))), ((hM.pull 1 rfl rfl).pull 1 rfl rfl)⟩)
        · refine c_cond_false (hS.ev_ rfl) hc36 ?_
          refine wp_skip ?_
          refine x_block ?_
          refine x_then ?_
          refine wp_region_lit ?_
          refine st_val hS rfl rfl (by decide) (r_add rfl (hS.ev_ rfl) (hS.ev_ rfl)) fun a hS => ?_
          refine st_val hS rfl rfl (by decide) (r_move rfl (hS.ev_ rfl)) fun a hS => ?_
          refine st_done ?_
          replace hS : Slots 37 [] a [(8, Value.int .i64 (w64 (x12 + 1))), (7, Value.int .i64 ((([([61, 61] : List UInt8), ([33, 61] : List UInt8), ([60, 61] : List UInt8), ([62, 61] : List UInt8), ([123] : List UInt8), ([125] : List UInt8), ([60] : List UInt8), ([62] : List UInt8)]).length : Int))), (6, v5), (3, eV w0 ((none : Option Nat))), (2, Value.pointer (some ⟨g3, 0, none⟩)), (0, Value.pointer (some ⟨g2, 0, none⟩))] := (hS.part (.cons rfl (.cons rfl (.cons rfl (.cons rfl (.cons rfl (.cons rfl (.nil _))))))))
          refine x_then ?_
          exact ih (w64 (x12 + 1)) _ h hr K34 _ _ (hlK11.trans hlK34) (hS.part (.cons rfl (.cons rfl (.cons rfl (.cons rfl (.cons rfl (.cons rfl (.nil _)))))))) ((hM.pull 1 rfl rfl))
      · refine c_cond_false (hS.ev_ rfl) hc19 ?_
        refine wp_exit ?_
        refine x_then_exit ?_
        refine x_then_exit ?_
        have ho' := (Option.some.inj h).trans hr
        refine hQ _ _ _ ?_
        exact .inl ⟨rfl, K11, (()), hlK11, ho'.symm, (hS.part (.cons rfl (.cons rfl (.nil _)))), ((hM.pull 1 rfl rfl).pull 1 rfl rfl)⟩
    exact key 0 _ h14 rfl K6 _ _ (Hp.le.refl _) (hS.part (.cons rfl (.cons rfl (.cons rfl (.cons rfl (.cons rfl (.cons rfl (.nil _)))))))) (((hM.pull 1 rfl rfl).pull 1 rfl rfl))
  · rintro e a w (⟨rfl, K15, x16, hlK15, ho', hS, hM⟩ | ⟨rfl, K17, x18, hlK17, ho', hS, hM⟩)
    · subst ho'
      dsimp only at h
      refine x_block_here ?_
      refine x_then ?_
      refine wp_seq ?_
      refine tk_start #[false, false, false, false] mixed_ rfl rfl ?_
      replace hM := hM.drew
      generalize w.drew = w at hM ⊢
      refine dk_any (i := 0) #[true, false, false, false] hS rfl (by kernel_rfl) rfl rfl (by decide) (fun w => r_build (cs := [Value.int .i64 (0), strV (([] : List UInt8)), Value.int .i64 (0), Value.slice none 0 0, Value.int .i64 (0)]) rfl (parts_ev hS rfl) (by kernel_rfl)) fun a hS => ?_
      refine dk_val (i := 1) (S := Rd w0 K15 []) #[true, true, false, false] hS rfl (by kernel_rfl) rfl rfl (by decide) (Rd.up (Hp.le.refl _) hM.nil_) (fun w hR => r_ldG rfl ag_41 (hS.ev_ rfl) (hG 1 (by decide)) hR) fun a hS => ?_
      refine dk_one (i := 2) #[true, true, true, false] rfl (by kernel_rfl) rfl (e_storeN (vs := [Value.int .i64 (0), strV (([] : List UInt8)), Value.int .i64 (0), Value.slice none 0 0, Value.int .i64 (0)]) hM rfl ti_24 (hS.ev_ rfl) (hS.ev_ rfl) (ones_cons rfl (ones_cons rfl (ones_cons rfl (ones_cons rfl (ones_cons rfl ones_nil))))) (Nat.le_of_ble_eq_true rfl) fun w hM => ?_)
      have hM : Sat w0 w K15 (SP.blk g3 24 [Value.int .i64 (0), strV (([] : List UInt8)), Value.int .i64 (0), Value.slice none 0 0, Value.int .i64 (0)] :: SP.blk g2 62 [strV (p1.f_s), Value.int .i64 (p1.f_at)] :: L) := hM
      refine pT0 hS rfl (Dem.keep (fun _ => Rd.up (Hp.le.refl _) hM.nil_) Dem.nil) fun a hS => ?_
      refine dk_any (i := 3) #[true, true, true, true] hS rfl (by kernel_rfl) rfl rfl (by decide) (fun w => r_assign rfl (hS.ev_ rfl)) fun a hS => ?_
      refine tk_done (by kernel_rfl) ?_
      replace hS : Slots 37 [] a [(3, eV w0 ((some 1 : Option Nat))), (2, Value.pointer (some ⟨g3, 0, none⟩))] := (hS.part (.cons rfl (.cons rfl (.nil _))))
      refine x_then ?_
      refine wp_ret ?_
      have hr' := Option.some.inj h
      subst hr'
      refine retR2 (.inr rfl) hS rfl ⟨_, rfl, lv_N (cs' := [Value.int .i64 (0), strV (([] : List UInt8)), Value.int .i64 (0), Value.slice none 0 0, Value.int .i64 (0)]) hM ag_24 ti_24 rfl⟩ (show Sl.look _ _ = some (eV w0 ((some 1 : Option Nat))) from rfl) ?_
      exact ⟨K15, (Value.slice none 0 0), (hlK6.trans hlK15), (hM).tail, rfl, (Kd.sl_nil _ _)⟩
    · subst ho'
      dsimp only at h
      refine x_block_ret ?_
      refine x_then_ret ?_
      have hr' := Option.some.inj h
      subst hr'
      refine retR2 (.inr rfl) hS rfl ⟨_, rfl, lv_N (cs' := [Value.int .i64 (x18.1), strV (x18.2.1), Value.int .i64 (0), Value.slice none 0 0, Value.int .i64 (0)]) hM ag_24 ti_24 rfl⟩ (show Sl.look _ _ = some (eV w0 ((none : Option Nat))) from rfl) ?_
      exact ⟨K17, (Value.slice none 0 0), (hlK6.trans hlK17), (hM).tail, rfl, (Kd.sl_nil _ _)⟩

theorem W_reader_token_c {w0 w : World} {K : Hp} {L : List SP} {p1 : W_reader} {g2 : Nat} {r : W_Token × (Option Nat) × W_reader} (hG : Glob w0) (h : W_reader_token p1 = some r) (hM : Sat w0 w K (SP.blk g2 62 [strV (p1.f_s), Value.int .i64 (p1.f_at)] :: L)) :
    Calls Tryd.prog 30 #[Value.pointer (some ⟨g2, 0, none⟩)] w (fun e w' => ∃ (K' : Hp) (v'1 : Value), Hp.le K K' ∧ Sat w0 w' K' (SP.blk g2 62 [strV (r.2.2.f_s), Value.int .i64 (r.2.2.f_at)] :: L) ∧ e = .returned (Value.tuple #[Value.agg #[Value.int .i64 (r.1.f_Kind), strV (r.1.f_Text), Value.int .i64 (r.1.f_Number), v'1, Value.int .i64 (r.1.f_At)], eV w0 r.2.1]) ∧ kW_Piece.sl K' v'1 r.1.f_Pieces) := by
  refine enter_ (n := 58) (args := [Value.pointer (some ⟨g2, 0, none⟩)]) Tryd.func30 rfl rfl (Nat.le_of_ble_eq_true rfl) fun a hS => ?_
  replace hS : Slots 58 [] a [(0, Value.pointer (some ⟨g2, 0, none⟩))] := hS
  unfold W_reader_token at h
  refine wp_seq ?_
  refine wp_region_lit ?_
  refine wl_cons rfl (e_alloc (cs := [Value.int .i64 (0), strV (([] : List UInt8)), Value.int .i64 (0), Value.slice none 0 0, Value.int .i64 (0)]) hM rfl ti_24 rfl fun g3 w hM => ?_)
  refine pl hS rfl (by decide) fun a hS => ?_
  refine st_val hS rfl rfl (by decide) (r_assign rfl (hS.ev_ rfl)) fun a hS => ?_
  refine st_done ?_
  replace hS : Slots 58 [] a [(3, eV w0 ((none : Option Nat))), (2, Value.pointer (some ⟨g3, 0, none⟩)), (0, Value.pointer (some ⟨g2, 0, none⟩))] := (hS.part (.cons rfl (.cons rfl (.cons rfl (.nil _)))))
  refine x_then ?_
  refine wp_seq ?_
  refine wp_seq ?_
  refine tk_start #[false, false, false, false, false, false, false, false, false, false] mixed_ rfl rfl ?_
  replace hM := hM.drew
  generalize w.drew = w at hM ⊢
  refine dk_any (i := 0) #[true, false, false, false, false, false, false, false, false, false] hS rfl (by kernel_rfl) rfl rfl (by decide) (fun w => r_move rfl (hS.ev_ rfl)) fun a hS => ?_
  refine dk_any (i := 1) #[true, true, false, false, false, false, false, false, false, false] hS rfl (by kernel_rfl) rfl rfl (by decide) (fun w => r_nilCheck rfl (hS.ev_ rfl)) fun a hS => ?_
  refine dk_any (i := 2) #[true, true, true, false, false, false, false, false, false, false] hS rfl (by kernel_rfl) rfl rfl (by decide) (fun w => r_fld_b rfl fo_62_0 (hS.ev_ rfl)) fun a hS => ?_
  replace hM := hM.pull 1 rfl rfl
  refine dk_val (i := 3) (S := Rd w0 K [SP.blk g2 62 [strV (p1.f_s), Value.int .i64 (p1.f_at)]]) #[true, true, true, true, false, false, false, false, false, false] hS rfl (by kernel_rfl) rfl rfl (by decide) (Rd.of hM.only) (fun w hR => r_ld1_b rfl ag_9 (hS.ev_ rfl) rfl hR) fun a hS => ?_
  refine dk_any (i := 4) #[true, true, true, true, true, false, false, false, false, false] hS rfl (by kernel_rfl) rfl rfl (by decide) (fun w => r_move rfl (hS.ev_ rfl)) fun a hS => ?_
  refine dk_any (i := 5) #[true, true, true, true, true, true, false, false, false, false] hS rfl (by kernel_rfl) rfl rfl (by decide) (fun w => r_nilCheck rfl (hS.ev_ rfl)) fun a hS => ?_
  refine dk_any (i := 6) #[true, true, true, true, true, true, true, false, false, false] hS rfl (by kernel_rfl) rfl rfl (by decide) (fun w => r_fld_b rfl fo_62_1 (hS.ev_ rfl)) fun a hS => ?_
  refine dk_val (i := 7) (S := Rd w0 K [SP.blk g2 62 [strV (p1.f_s), Value.int .i64 (p1.f_at)]]) #[true, true, true, true, true, true, true, true, false, false] hS rfl (by kernel_rfl) rfl rfl (by decide) (Rd.of hM.only) (fun w hR => r_ld1_b rfl ag_3 (hS.ev_ rfl) rfl hR) fun a hS => ?_
  obtain ⟨c5, h6, h⟩ := bindO h
  refine dk_any (i := 8) #[true, true, true, true, true, true, true, true, true, false] hS rfl (by kernel_rfl) rfl rfl (by decide) (fun w => r_index_s rfl un_9 (hS.ev_ rfl) (hS.ev_ rfl) h6) fun a hS => ?_
  refine dk_any (i := 9) #[true, true, true, true, true, true, true, true, true, true] hS rfl (by kernel_rfl) rfl rfl (by decide) (fun w => r_assign rfl (hS.ev_ rfl)) fun a hS => ?_
  refine tk_done (by kernel_rfl) ?_
  replace hS : Slots 58 [] a [(4, Value.int .u8 (b8 (c5))), (3, eV w0 ((none : Option Nat))), (2, Value.pointer (some ⟨g3, 0, none⟩)), (0, Value.pointer (some ⟨g2, 0, none⟩))] := (hS.part (.cons rfl (.cons rfl (.cons rfl (.cons rfl (.nil _))))))
  refine x_then ?_
  refine wp_block ?_
  refine wp_seq ?_
  refine wp_region_lit ?_
  refine st_val hS rfl rfl (by decide) (r_move rfl (hS.ev_ rfl)) fun a hS => ?_
  refine st_val hS rfl rfl (by decide) (r_cmp8 rfl (hS.ev_ rfl) (hS.ev_ (v := Value.int .u8 (b8 (10))) rfl) rfl) fun a hS => ?_
  refine st_val hS rfl rfl (by decide) (r_move rfl (hS.ev_ rfl)) fun a hS => ?_
  obtain ⟨x7, h8, h⟩ := bindO h
  refine wl_cut 3 (fun a w => Slots 58 [] a [(0, Value.pointer (some ⟨g2, 0, none⟩)), (2, Value.pointer (some ⟨g3, 0, none⟩)), (3, eV w0 ((none : Option Nat))), (4, Value.int .u8 (b8 (c5))), (20, Value.bool (x7))] ∧ Sat w0 w K (SP.blk g2 62 [strV (p1.f_s), Value.int .i64 (p1.f_at)] :: SP.blk g3 24 [Value.int .i64 (0), strV (([] : List UInt8)), Value.int .i64 (0), Value.slice none 0 0, Value.int .i64 (0)] :: L)) ?_ ?_
  ·
    skip
    rcases ifB h8 with ⟨hc9, h8⟩ | ⟨hc9, h8⟩
    ·
      replace hS := hS.known (k := 17) rfl hc9
      refine st_off hS rfl rfl rfl rfl rfl rfl (by decide) fun a hS => ?_
      refine st_off hS rfl rfl rfl rfl rfl rfl (by decide) fun a hS => ?_
      refine st_val hS rfl rfl (by decide) (r_pick_true rfl (hS.ev_ rfl) rfl (hS.ev_ rfl)) fun a hS => ?_
      refine st_done ?_
      replace hS : Slots 58 [] a [(20, Value.bool (true)), (4, Value.int .u8 (b8 (c5))), (3, eV w0 ((none : Option Nat))), (2, Value.pointer (some ⟨g3, 0, none⟩)), (0, Value.pointer (some ⟨g2, 0, none⟩))] := (hS.part (.cons rfl (.cons rfl (.cons rfl (.cons rfl (.cons rfl (.nil _)))))))
      refine x_then ?_
      obtain rfl := Option.some.inj h8
      exact ⟨(hS.part (.cons rfl (.cons rfl (.cons rfl (.cons rfl (.cons rfl (.nil _))))))), ((hM.pull 1 rfl rfl).pull 1 rfl rfl)⟩
    ·
      replace hS := hS.known (k := 17) rfl hc9
      refine st_want hS rfl rfl rfl rfl rfl (by decide) (r_move rfl (hS.ev_ rfl)) fun a hS => ?_
      refine st_want hS rfl rfl rfl rfl rfl (by decide) (r_cmp8 rfl (hS.ev_ rfl) (hS.ev_ (v := Value.int .u8 (b8 (59))) rfl) rfl) fun a hS => ?_
      refine st_val hS rfl rfl (by decide) (r_pick_false rfl (hS.ev_ rfl) rfl (hS.ev_ rfl)) fun a hS => ?_
      refine st_done ?_
      replace hS : Slots 58 [] a [(20, Value.bool (c5 == 59)), (4, Value.int .u8 (b8 (c5))), (3, eV w0 ((none : Option Nat))), (2, Value.pointer (some ⟨g3, 0, none⟩)), (0, Value.pointer (some ⟨g2, 0, none⟩))] := (hS.part (.cons rfl (.cons rfl (.cons rfl (.cons rfl (.cons rfl (.nil _)))))))
      refine x_then ?_
      obtain rfl := Option.some.inj h8
      exact ⟨(hS.part (.cons rfl (.cons rfl (.cons rfl (.cons rfl (.cons rfl (.nil _))))))), ((hM.pull 1 rfl rfl).pull 1 rfl rfl)⟩
  · rintro a w ⟨hS, hM⟩
    refine st_val hS rfl rfl (by decide) (r_assign rfl (hS.ev_ rfl)) fun a hS => ?_
    refine st_done ?_
    replace hS : Slots 58 [] a [(14, Value.bool (x7)), (0, Value.pointer (some ⟨g2, 0, none⟩)), (2, Value.pointer (some ⟨g3, 0, none⟩)), (3, eV w0 ((none : Option Nat))), (4, Value.int .u8 (b8 (c5)))] := (hS.part (.cons rfl (.cons rfl (.cons rfl (.cons rfl (.cons rfl (.nil _)))))))
    refine x_then ?_
    rcases ifB h with ⟨hc10, h⟩ | ⟨hc10, h⟩
    · refine c_cond_true (hS.ev_ rfl) hc10 ?_
      refine wp_seq ?_
      refine wp_region_lit ?_
      refine st_val hS rfl rfl (by decide) (r_move rfl (hS.ev_ rfl)) fun a hS => ?_
      refine st_val hS rfl rfl (by decide) (r_nilCheck rfl (hS.ev_ rfl)) fun a hS => ?_
      refine st_val hS rfl rfl (by decide) (r_fld_b rfl fo_62_1 (hS.ev_ rfl)) fun a hS => ?_
      refine st_val hS rfl rfl (by decide) (r_ld1_b rfl ag_3 (hS.ev_ rfl) rfl (Rd.of hM)) fun a hS => ?_
      refine st_val hS rfl rfl (by decide) (r_add rfl (hS.ev_ rfl) (hS.ev_ rfl)) fun a hS => ?_
      refine st_val hS rfl rfl (by decide) (r_nilCheck rfl (hS.ev_ rfl)) fun a hS => ?_
      refine st_val hS rfl rfl (by decide) (r_fld_b rfl fo_62_1 (hS.ev_ rfl)) fun a hS => ?_
      refine wl_cons rfl (e_store1 hM rfl ti_3 (hS.ev_ rfl) (hS.ev_ rfl) rfl (Nat.lt_of_lt_of_le (Nat.le_of_ble_eq_true rfl) (Nat.le_refl _)) fun w hM => ?_)
      have hM : Sat w0 w K (SP.blk g2 62 [strV (p1.f_s), Value.int .i64 (w64 (p1.f_at + 1))] :: SP.blk g3 24 [Value.int .i64 (0), strV (([] : List UInt8)), Value.int .i64 (0), Value.slice none 0 0, Value.int .i64 (0)] :: L) := hM
      refine pl0 hS rfl fun a hS => ?_
      refine st_done ?_
      replace hS : Slots 58 [] a [(0, Value.pointer (some ⟨g2, 0, none⟩)), (2, Value.pointer (some ⟨g3, 0, none⟩)), (3, eV w0 ((none : Option Nat)))] := (hS.part (.cons rfl (.cons rfl (.cons rfl (.nil _)))))
      refine x_then ?_
      refine wp_seq ?_
      refine wp_region_lit ?_
      refine st_val hS rfl rfl (by decide) (r_build (cs := [Value.int .i64 (5), strV (([] : List UInt8)), Value.int .i64 (0), Value.slice none 0 0, Value.int .i64 (0)]) rfl (parts_ev hS rfl) (by kernel_rfl)) fun a hS => ?_
      replace hM := hM.pull 1 rfl rfl
      refine wl_cons rfl (e_storeN (vs := [Value.int .i64 (5), strV (([] : List UInt8)), Value.int .i64 (0), Value.slice none 0 0, Value.int .i64 (0)]) hM rfl ti_24 (hS.ev_ rfl) (hS.ev_ rfl) (ones_cons rfl (ones_cons rfl (ones_cons rfl (ones_cons rfl (ones_cons rfl ones_nil))))) (Nat.le_of_ble_eq_true rfl) fun w hM => ?_)
      have hM : Sat w0 w K (SP.blk g3 24 [Value.int .i64 (5), strV (([] : List UInt8)), Value.int .i64 (0), Value.slice none 0 0, Value.int .i64 (0)] :: SP.blk g2 62 [strV (p1.f_s), Value.int .i64 (w64 (p1.f_at + 1))] :: L) := hM
      refine pl0 hS rfl fun a hS => ?_
      refine st_val hS rfl rfl (by decide) (r_assign rfl (hS.ev_ rfl)) fun a hS => ?_
      refine st_done ?_
      replace hS : Slots 58 [] a [(3, eV w0 ((none : Option Nat))), (0, Value.pointer (some ⟨g2, 0, none⟩)), (2, Value.pointer (some ⟨g3, 0, none⟩))] := (hS.part (.cons rfl (.cons rfl (.cons rfl (.nil _)))))
      refine x_then ?_
      refine wp_ret ?_
      refine x_block_ret ?_
      refine x_then_ret ?_
      have hr' := Option.some.inj h
      subst hr'
      refine retR2 (.inr rfl) hS rfl ⟨_, rfl, lv_N (cs' := [Value.int .i64 (5), strV (([] : List UInt8)), Value.int .i64 (0), Value.slice none 0 0, Value.int .i64 (0)]) hM ag_24 ti_24 rfl⟩ (show Sl.look _ _ = some (eV w0 ((none : Option Nat))) from rfl) ?_
      exact ⟨K, (Value.slice none 0 0), (Hp.le.refl _), (hM).tail, rfl, (Kd.sl_nil _ _)⟩
    · refine c_cond_false (hS.ev_ rfl) hc10 ?_
      refine wp_seq ?_
      refine wp_region_lit ?_
      refine st_val hS rfl rfl (by decide) (r_move rfl (hS.ev_ rfl)) fun a hS => ?_
      obtain ⟨y11, h12, h⟩ := bindO h
      have hc14 := W_begins_c hG h12 hM
      refine wl_cons rfl (e_call rfl Tryd.func23 rfl rfl (args1 (hS.ev_ rfl)) hc14 ?_)
      rintro _ w ⟨K13, hlK13, hM, rfl⟩
      refine ⟨_, rfl, ?_⟩
      refine pl hS rfl (by decide) fun a hS => ?_
      refine st_val hS rfl rfl (by decide) (r_assign rfl (hS.ev_ rfl)) fun a hS => ?_
      refine st_done ?_
      replace hS : Slots 58 [] a [(29, Value.bool (y11)), (0, Value.pointer (some ⟨g2, 0, none⟩)), (2, Value.pointer (some ⟨g3, 0, none⟩)), (3, eV w0 ((none : Option Nat))), (4, Value.int .u8 (b8 (c5)))] := (hS.part (.cons rfl (.cons rfl (.cons rfl (.cons rfl (.cons rfl (.nil _)))))))
      refine x_then ?_
      rcases ifB h with ⟨hc15, h⟩ | ⟨hc15, h⟩
      · refine c_cond_true (hS.ev_ rfl) hc15 ?_
        refine wp_seq ?_
        refine wp_region_lit ?_
        refine st_val hS rfl rfl (by decide) (r_move rfl (hS.ev_ rfl)) fun a hS => ?_
        obtain ⟨y16, h17, h⟩ := bindO h
        have hc19 := W_reader_name_c hG h17 hM
        refine wl_cons rfl (e_call rfl Tryd.func40 rfl rfl (args1 (hS.ev_ rfl)) hc19 ?_)
        rintro _ w ⟨K18, v20, hlK18, hM, rfl, f21⟩
        refine ⟨_, rfl, ?_⟩
        refine pl hS rfl (by decide) fun a hS => ?_
        refine st_val hS rfl rfl (by decide) (r_extract rfl (hS.ev_ rfl) rfl) fun a hS => ?_
        refine st_val hS rfl rfl (by decide) (r_extract rfl (hS.ev_ rfl) rfl) fun a hS => ?_
        replace hM := hM.pull 1 rfl rfl
        refine wl_cons rfl (e_storeN (vs := [Value.int .i64 (y16.1.f_Kind), strV (y16.1.f_Text), Value.int .i64 (y16.1.f_Number), v20, Value.int .i64 (y16.1.f_At)]) hM rfl ti_24 (hS.ev_ rfl) (hS.ev_ rfl) (ones_cons rfl (ones_cons rfl (ones_cons rfl (ones_cons (sl_one f21) (ones_cons rfl ones_nil))))) (Nat.le_of_ble_eq_true rfl) fun w hM => ?_)
        have hM : Sat w0 w K18 (SP.blk g3 24 [Value.int .i64 (y16.1.f_Kind), strV (y16.1.f_Text), Value.int .i64 (y16.1.f_Number), v20, Value.int .i64 (y16.1.f_At)] :: SP.blk g2 62 [strV (y16.2.2.f_s), Value.int .i64 (y16.2.2.f_at)] :: L) := hM
        refine pl0 hS rfl fun a hS => ?_
        refine st_val hS rfl rfl (by decide) (r_assign rfl (hS.ev_ rfl)) fun a hS => ?_
        refine st_done ?_
        replace hS : Slots 58 [] a [(3, eV w0 y16.2.1), (0, Value.pointer (some ⟨g2, 0, none⟩)), (2, Value.pointer (some ⟨g3, 0, none⟩))] := (hS.part (.cons rfl (.cons rfl (.cons rfl (.nil _)))))
        refine x_then ?_
        refine wp_ret ?_
        refine x_block_ret ?_
        refine x_then_ret ?_
        have hr' := Option.some.inj h
        subst hr'
        refine retR2 (.inr rfl) hS rfl ⟨_, rfl, lv_N (cs' := [Value.int .i64 (y16.1.f_Kind), strV (y16.1.f_Text), Value.int .i64 (y16.1.f_Number), v20, Value.int .i64 (y16.1.f_At)]) hM ag_24 ti_24 rfl⟩ (show Sl.look _ _ = some (eV w0 y16.2.1) from rfl) ?_
        exact ⟨K18, (v20), (hlK13.trans hlK18), (hM).tail, rfl, f21⟩
      · refine c_cond_false (hS.ev_ rfl) hc15 ?_
        refine wp_seq ?_
        refine wp_region_lit ?_
        refine st_val hS rfl rfl (by decide) (r_move rfl (hS.ev_ rfl)) fun a hS => ?_
        obtain ⟨y22, h23, h⟩ := bindO h
        have hc25 := W_figure_c hG h23 hM
        refine wl_cons rfl (e_call rfl Tryd.func32 rfl rfl (args1 (hS.ev_ rfl)) hc25 ?_)
        rintro _ w ⟨K24, hlK24, hM, rfl⟩
        refine ⟨_, rfl, ?_⟩
        refine pl hS rfl (by decide) fun a hS => ?_
        refine st_val hS rfl rfl (by decide) (r_move rfl (hS.ev_ rfl)) fun a hS => ?_
        obtain ⟨x26, h27, h⟩ := bindO h
        refine wl_cut 3 (fun a w => Slots 58 [] a [(0, Value.pointer (some ⟨g2, 0, none⟩)), (2, Value.pointer (some ⟨g3, 0, none⟩)), (3, eV w0 ((none : Option Nat))), (4, Value.int .u8 (b8 (c5))), (42, Value.bool (x26))] ∧ Sat w0 w K24 (SP.blk g2 62 [strV (p1.f_s), Value.int .i64 (p1.f_at)] :: SP.blk g3 24 [Value.int .i64 (0), strV (([] : List UInt8)), Value.int .i64 (0), Value.slice none 0 0, Value.int .i64 (0)] :: L)) ?_ ?_
        ·
          skip
          rcases ifB h27 with ⟨hc28, h27⟩ | ⟨hc28, h27⟩
          ·
            replace hS := hS.known (k := 39) rfl hc28
            refine st_off hS rfl rfl rfl rfl rfl rfl (by decide) fun a hS => ?_
            refine st_off hS rfl rfl rfl rfl rfl rfl (by decide) fun a hS => ?_
            refine st_val hS rfl rfl (by decide) (r_pick_true rfl (hS.ev_ rfl) rfl (hS.ev_ rfl)) fun a hS => ?_
            refine st_done ?_
            replace hS : Slots 58 [] a [(42, Value.bool (true)), (0, Value.pointer (some ⟨g2, 0, none⟩)), (2, Value.pointer (some ⟨g3, 0, none⟩)), (3, eV w0 ((none : Option Nat))), (4, Value.int .u8 (b8 (c5)))] := (hS.part (.cons rfl (.cons rfl (.cons rfl (.cons rfl (.cons rfl (.nil _)))))))
            refine x_then ?_
            obtain rfl := Option.some.inj h27
            exact ⟨(hS.part (.cons rfl (.cons rfl (.cons rfl (.cons rfl (.cons rfl (.nil _))))))), ((hM.pull 1 rfl rfl).pull 1 rfl rfl)⟩
          ·
            replace hS := hS.known (k := 39) rfl hc28
            refine st_want hS rfl rfl rfl rfl rfl (by decide) (r_move rfl (hS.ev_ rfl)) fun a hS => ?_
            refine st_want hS rfl rfl rfl rfl rfl (by decide) (r_cmp8 rfl (hS.ev_ rfl) (hS.ev_ (v := Value.int .u8 (b8 (45))) rfl) rfl) fun a hS => ?_
            refine st_val hS rfl rfl (by decide) (r_pick_false rfl (hS.ev_ rfl) rfl (hS.ev_ rfl)) fun a hS => ?_
            refine st_done ?_
            replace hS : Slots 58 [] a [(42, Value.bool (c5 == 45)), (0, Value.pointer (some ⟨g2, 0, none⟩)), (2, Value.pointer (some ⟨g3, 0, none⟩)), (3, eV w0 ((none : Option Nat))), (4, Value.int .u8 (b8 (c5)))] := (hS.part (.cons rfl (.cons rfl (.cons rfl (.cons rfl (.cons rfl (.nil _)))))))
            refine x_then ?_
            obtain rfl := Option.some.inj h27
            exact ⟨(hS.part (.cons rfl (.cons rfl (.cons rfl (.cons rfl (.cons rfl (.nil _))))))), ((hM.pull 1 rfl rfl).pull 1 rfl rfl)⟩
        · rintro a w ⟨hS, hM⟩
          refine st_val hS rfl rfl (by decide) (r_assign rfl (hS.ev_ rfl)) fun a hS => ?_
          refine st_done ?_
          replace hS : Slots 58 [] a [(36, Value.bool (x26)), (0, Value.pointer (some ⟨g2, 0, none⟩)), (2, Value.pointer (some ⟨g3, 0, none⟩)), (3, eV w0 ((none : Option Nat))), (4, Value.int .u8 (b8 (c5)))] := (hS.part (.cons rfl (.cons rfl (.cons rfl (.cons rfl (.cons rfl (.nil _)))))))
          refine x_then ?_
          rcases ifB h with ⟨hc29, h⟩ | ⟨hc29, h⟩
          · refine c_cond_true (hS.ev_ rfl) hc29 ?_
            refine wp_seq ?_
            refine wp_region_lit ?_
            refine st_val hS rfl rfl (by decide) (r_move rfl (hS.ev_ rfl)) fun a hS => ?_
            obtain ⟨y30, h31, h⟩ := bindO h
            have hc33 := W_reader_number_c hG h31 hM
            refine wl_cons rfl (e_call rfl Tryd.func41 rfl rfl (args1 (hS.ev_ rfl)) hc33 ?_)
            rintro _ w ⟨K32, v34, hlK32, hM, rfl, f35⟩
            refine ⟨_, rfl, ?_⟩
            refine pl hS rfl (by decide) fun a hS => ?_
            refine st_val hS rfl rfl (by decide) (r_extract rfl (hS.ev_ rfl) rfl) fun a hS => ?_
            refine st_val hS rfl rfl (by decide) (r_extract rfl (hS.ev_ rfl) rfl) fun a hS => ?_
            replace hM := hM.pull 1 rfl rfl
            refine wl_cons rfl (e_storeN (vs := [Value.int .i64 (y30.1.f_Kind), strV (y30.1.f_Text), Value.int .i64 (y30.1.f_Number), v34, Value.int .i64 (y30.1.f_At)]) hM rfl ti_24 (hS.ev_ rfl) (hS.ev_ rfl) (ones_cons rfl (ones_cons rfl (ones_cons rfl (ones_cons (sl_one f35) (ones_cons rfl ones_nil))))) (Nat.le_of_ble_eq_true rfl) fun w hM => ?_)
            have hM : Sat w0 w K32 (SP.blk g3 24 [Value.int .i64 (y30.1.f_Kind), strV (y30.1.f_Text), Value.int .i64 (y30.1.f_Number), v34, Value.int .i64 (y30.1.f_At)] :: SP.blk g2 62 [strV (y30.2.2.f_s), Value.int .i64 (y30.2.2.f_at)] :: L) := hM
            refine pl0 hS rfl fun a hS => ?_
            refine st_val hS rfl rfl (by decide) (r_assign rfl (hS.ev_ rfl)) fun a hS => ?_
            refine st_done ?_
            replace hS : Slots 58 [] a [(3, eV w0 y30.2.1), (0, Value.pointer (some ⟨g2, 0, none⟩)), (2, Value.pointer (some ⟨g3, 0, none⟩))] := (hS.part (.cons rfl (.cons rfl (.cons rfl (.nil _)))))
            refine x_then ?_
            refine wp_ret ?_
            refine x_block_ret ?_
            refine x_then_ret ?_
            have hr' := Option.some.inj h
            subst hr'
            refine retR2 (.inr rfl) hS rfl ⟨_, rfl, lv_N (cs' := [Value.int .i64 (y30.1.f_Kind), strV (y30.1.f_Text), Value.int .i64 (y30.1.f_Number), v34, Value.int .i64 (y30.1.f_At)]) hM ag_24 ti_24 rfl⟩ (show Sl.look _ _ = some (eV w0 y30.2.1) from rfl) ?_
            exact ⟨K32, (v34), ((hlK13.trans hlK24).trans hlK32), (hM).tail, rfl, f35⟩
          · refine c_cond_false (hS.ev_ rfl) hc29 ?_
            refine wp_seq ?_
            refine wp_region_lit ?_
            refine st_val hS rfl rfl (by decide) (r_move rfl (hS.ev_ rfl)) fun a hS => ?_
            refine st_val hS rfl rfl (by decide) (r_cmp8 rfl (hS.ev_ rfl) (hS.ev_ (v := Value.int .u8 (b8 (34))) rfl) rfl) fun a hS => ?_
            refine st_val hS rfl rfl (by decide) (r_assign rfl (hS.ev_ rfl)) fun a hS => ?_
            refine st_done ?_
            replace hS : Slots 58 [] a [(47, Value.bool (c5 == 34)), (0, Value.pointer (some ⟨g2, 0, none⟩)), (2, Value.pointer (some ⟨g3, 0, none⟩)), (3, eV w0 ((none : Option Nat)))] := (hS.part (.cons rfl (.cons rfl (.cons rfl (.cons rfl (.nil _))))))
            refine x_then ?_
            rcases ifB h with ⟨hc36, h⟩ | ⟨hc36, h⟩
            · refine c_cond_true (hS.ev_ rfl) hc36 ?_
              refine wp_seq ?_
              refine wp_region_lit ?_
              refine st_val hS rfl rfl (by decide) (r_move rfl (hS.ev_ rfl)) fun a hS => ?_
              obtain ⟨y37, h38, h⟩ := bindO h
              have hc40 := W_reader_text_c hG h38 hM
              refine wl_cons rfl (e_call rfl Tryd.func42 rfl rfl (args1 (hS.ev_ rfl)) hc40 ?_)
              rintro _ w ⟨K39, v41, hlK39, hM, rfl, f42⟩
              refine ⟨_, rfl, ?_⟩
              refine pl hS rfl (by decide) fun a hS => ?_
              refine st_val hS rfl rfl (by decide) (r_extract rfl (hS.ev_ rfl) rfl) fun a hS => ?_
              refine st_val hS rfl rfl (by decide) (r_extract rfl (hS.ev_ rfl) rfl) fun a hS => ?_
              replace hM := hM.pull 1 rfl rfl
              refine wl_cons rfl (e_storeN (vs := [Value.int .i64 (y37.1.f_Kind), strV (y37.1.f_Text), Value.int .i64 (y37.1.f_Number), v41, Value.int .i64 (y37.1.f_At)]) hM rfl ti_24 (hS.ev_ rfl) (hS.ev_ rfl) (ones_cons rfl (ones_cons rfl (ones_cons rfl (ones_cons (sl_one f42) (ones_cons rfl ones_nil))))) (Nat.le_of_ble_eq_true rfl) fun w hM => ?_)
              have hM : Sat w0 w K39 (SP.blk g3 24 [Value.int .i64 (y37.1.f_Kind), strV (y37.1.f_Text), Value.int .i64 (y37.1.f_Number), v41, Value.int .i64 (y37.1.f_At)] :: SP.blk g2 62 [strV (y37.2.2.f_s), Value.int .i64 (y37.2.2.f_at)] :: L) := hM
              refine pl0 hS rfl fun a hS => ?_
              refine st_val hS rfl rfl (by decide) (r_assign rfl (hS.ev_ rfl)) fun a hS => ?_
              refine st_done ?_
              replace hS : Slots 58 [] a [(3, eV w0 y37.2.1), (0, Value.pointer (some ⟨g2, 0, none⟩)), (2, Value.pointer (some ⟨g3, 0, none⟩))] := (hS.part (.cons rfl (.cons rfl (.cons rfl (.nil _)))))
              refine x_then ?_
              refine wp_ret ?_
              refine x_block_ret ?_
              refine x_then_ret ?_
              have hr' := Option.some.inj h
              subst hr'
              refine retR2 (.inr rfl) hS rfl ⟨_, rfl, lv_N (cs' := [Value.int .i64 (y37.1.f_Kind), strV (y37.1.f_Text), Value.int .i64 (y37.1.f_Number), v41, Value.int .i64 (y37.1.f_At)]) hM ag_24 ti_24 rfl⟩ (show Sl.look _ _ = some (eV w0 y37.2.1) from rfl) ?_
              exact ⟨K39, (v41), ((hlK13.trans hlK24).trans hlK39), (hM).tail, rfl, f42⟩
            · refine c_cond_false (hS.ev_ rfl) hc36 ?_
              refine wp_skip ?_
              refine x_block ?_
              refine x_then ?_
              refine wp_seq ?_
              refine wp_region_lit ?_
              refine st_val hS rfl rfl (by decide) (r_move rfl (hS.ev_ rfl)) fun a hS => ?_
              obtain ⟨y43, h44, h⟩ := bindO h
              have hc46 := W_reader_sign_c hG h44 hM
              refine wl_cons rfl (e_call rfl Tryd.func43 rfl rfl (args1 (hS.ev_ rfl)) hc46 ?_)
              rintro _ w ⟨K45, v47, hlK45, hM, rfl, f48⟩
              refine ⟨_, rfl, ?_⟩
              refine pl hS rfl (by decide) fun a hS => ?_
              refine st_val hS rfl rfl (by decide) (r_extract rfl (hS.ev_ rfl) rfl) fun a hS => ?_
              refine st_val hS rfl rfl (by decide) (r_extract rfl (hS.ev_ rfl) rfl) fun a hS => ?_
              replace hM := hM.pull 1 rfl rfl
              refine wl_cons rfl (e_storeN (vs := [Value.int .i64 (y43.1.f_Kind), strV (y43.1.f_Text), Value.int .i64 (y43.1.f_Number), v47, Value.int .i64 (y43.1.f_At)]) hM rfl ti_24 (hS.ev_ rfl) (hS.ev_ rfl) (ones_cons rfl (ones_cons rfl (ones_cons rfl (ones_cons (sl_one f48) (ones_cons rfl ones_nil))))) (Nat.le_of_ble_eq_true rfl) fun w hM => ?_)
              have hM : Sat w0 w K45 (SP.blk g3 24 [Value.int .i64 (y43.1.f_Kind), strV (y43.1.f_Text), Value.int .i64 (y43.1.f_Number), v47, Value.int .i64 (y43.1.f_At)] :: SP.blk g2 62 [strV (y43.2.2.f_s), Value.int .i64 (y43.2.2.f_at)] :: L) := hM
              refine pl0 hS rfl fun a hS => ?_
              refine st_val hS rfl rfl (by decide) (r_assign rfl (hS.ev_ rfl)) fun a hS => ?_
              refine st_done ?_
              replace hS : Slots 58 [] a [(3, eV w0 y43.2.1), (2, Value.pointer (some ⟨g3, 0, none⟩))] := (hS.part (.cons rfl (.cons rfl (.nil _))))
              refine x_then ?_
              refine wp_ret ?_
              have hr' := Option.some.inj h
              subst hr'
              refine retR2 (.inr rfl) hS rfl ⟨_, rfl, lv_N (cs' := [Value.int .i64 (y43.1.f_Kind), strV (y43.1.f_Text), Value.int .i64 (y43.1.f_Number), v47, Value.int .i64 (y43.1.f_At)]) hM ag_24 ti_24 rfl⟩ (show Sl.look _ _ = some (eV w0 y43.2.1) from rfl) ?_
              exact ⟨K45, (v47), ((hlK13.trans hlK24).trans hlK45), (hM).tail, rfl, f48⟩

theorem W_Split_c {w0 w : World} {K : Hp} {L : List SP} {p1 : List UInt8} {r : (List W_Token) × Int × (Option Nat)} (hG : Glob w0) (h : W_Split p1 = some r) (hM : Sat w0 w K (L)) :
    Calls Tryd.prog 15 #[strV (p1)] w (fun e w' => ∃ (K' : Hp) (v'1 : Value), Hp.le K K' ∧ Sat w0 w' K' (L) ∧ e = .returned (Value.tuple #[v'1, Value.int .i64 (r.2.1), eV w0 r.2.2]) ∧ kW_Token.sl K' v'1 r.1) := by
  refine enter_ (n := 44) (args := [strV (p1)]) Tryd.func15 rfl rfl (Nat.le_of_ble_eq_true rfl) fun a hS => ?_
  replace hS : Slots 44 [] a [(0, strV (p1))] := hS
  unfold W_Split at h
  refine wp_seq ?_
  refine wp_region_lit ?_
  refine st_val hS rfl rfl (by decide) (r_assign rfl (hS.ev_ rfl)) fun a hS => ?_
  refine st_val hS rfl rfl (by decide) (r_assign rfl (hS.ev_ rfl)) fun a hS => ?_
  refine st_val hS rfl rfl (by decide) (r_assign rfl (hS.ev_ rfl)) fun a hS => ?_
  refine st_done ?_
  replace hS : Slots 44 [] a [(4, eV w0 ((none : Option Nat))), (3, Value.int .i64 (0)), (2, Value.slice none 0 0), (0, strV (p1))] := (hS.part (.cons rfl (.cons rfl (.cons rfl (.cons rfl (.nil _))))))
  refine x_then ?_
  refine wp_seq ?_
  refine wp_seq ?_
  refine wp_region_lit ?_
  refine st_val hS rfl rfl (by decide) (r_move rfl (hS.ev_ rfl)) fun a hS => ?_
  refine st_val hS rfl rfl (by decide) (r_len_str rfl un_9 (hS.ev_ rfl)) fun a hS => ?_
  refine st_val hS rfl rfl (by decide) (r_cmp rfl (hS.ev_ rfl) (hS.ev_ rfl) rfl) fun a hS => ?_
  refine st_done ?_
  replace hS : Slots 44 [] a [(12, Value.bool (decide (((p1.length : Int)) > 4000))), (4, eV w0 ((none : Option Nat))), (3, Value.int .i64 (0)), (2, Value.slice none 0 0), (0, strV (p1))] := (hS.part (.cons rfl (.cons rfl (.cons rfl (.cons rfl (.cons rfl (.nil _)))))))
  refine x_then ?_
  rcases ifB h with ⟨hc2, h⟩ | ⟨hc2, h⟩
  · refine c_cond_true (hS.ev_ rfl) hc2 ?_
    refine wp_seq ?_
    refine tk_start #[false, false, false, false] mixed_ rfl rfl ?_
    replace hM := hM.drew
    generalize w.drew = w at hM ⊢
    refine dk_val (i := 0) (S := Rd w0 K []) #[true, false, false, false] hS rfl (by kernel_rfl) rfl rfl (by decide) (Rd.up (Hp.le.refl _) hM.nil_) (fun w hR => r_ldG rfl ag_41 (hS.ev_ rfl) (hG 0 (by decide)) hR) fun a hS => ?_
    refine dk_any (i := 1) #[true, true, false, false] hS rfl (by kernel_rfl) rfl rfl (by decide) (fun w => r_assign rfl (hS.ev_ rfl)) fun a hS => ?_
    refine dk_any (i := 2) #[true, true, true, false] hS rfl (by kernel_rfl) rfl rfl (by decide) (fun w => r_assign rfl (hS.ev_ rfl)) fun a hS => ?_
    refine dk_any (i := 3) #[true, true, true, true] hS rfl (by kernel_rfl) rfl rfl (by decide) (fun w => r_assign rfl (hS.ev_ rfl)) fun a hS => ?_
    refine tk_done (by kernel_rfl) ?_
    replace hS : Slots 44 [] a [(4, eV w0 ((some 0 : Option Nat))), (3, Value.int .i64 (0)), (2, Value.slice none 0 0), (0, strV (p1))] := (hS.part (.cons rfl (.cons rfl (.cons rfl (.cons rfl (.nil _))))))
    refine x_then ?_
    refine wp_ret ?_
    refine x_then_ret ?_
    have hr' := Option.some.inj h
    subst hr'
    refine ret3 (.inr rfl) hS rfl rfl rfl rfl ?_
    exact ⟨K, (Value.slice none 0 0), (Hp.le.refl _), hM, rfl, (Kd.sl_nil _ _)⟩
  · refine c_cond_false (hS.ev_ rfl) hc2 ?_
    refine wp_skip ?_
    refine x_then ?_
    refine wp_seq ?_
    refine wp_region_lit ?_
    refine st_val hS rfl rfl (by decide) (r_move rfl (hS.ev_ rfl)) fun a hS => ?_
    refine st_val hS rfl rfl (by decide) (r_build (cs := [strV (p1), Value.int .i64 (0)]) rfl (parts_ev hS rfl) (by kernel_rfl)) fun a hS => ?_
    refine wl_cons rfl (e_box (cs := [strV (p1), Value.int .i64 (0)]) hM rfl (hS.ev_ rfl) rfl fun g3 w hM => ?_)
    refine pl hS rfl (by decide) fun a hS => ?_
    refine st_val hS rfl rfl (by decide) (r_assign rfl (hS.ev_ rfl)) fun a hS => ?_
    refine st_done ?_
    replace hS : Slots 44 [] a [(5, Value.pointer (some ⟨g3, 0, none⟩)), (4, eV w0 ((none : Option Nat))), (3, Value.int .i64 (0)), (2, Value.slice none 0 0)] := (hS.part (.cons rfl (.cons rfl (.cons rfl (.cons rfl (.nil _))))))
    refine x_then ?_
    refine wp_seq ?_
    refine wp_region_lit ?_
    refine st_val hS rfl rfl (by decide) (r_assign rfl (hS.ev_ rfl)) fun a hS => ?_
    replace hM := hM.row_nil kW_Token 24
    refine st_done ?_
    replace hS : Slots 44 [] a [(6, (Value.slice none 0 0)), (5, Value.pointer (some ⟨g3, 0, none⟩)), (4, eV w0 ((none : Option Nat))), (3, Value.int .i64 (0)), (2, Value.slice none 0 0)] := (hS.part (.cons rfl (.cons rfl (.cons rfl (.cons rfl (.cons rfl (.nil _)))))))
    refine x_then ?_
    refine wp_seq ?_
    refine wp_seq ?_
    refine wp_region_lit ?_
    refine st_val hS rfl rfl (by decide) (r_move rfl (hS.ev_ rfl)) fun a hS => ?_
    obtain ⟨y6, h7, h⟩ := bindO h
    replace hM := hM.pull 1 rfl rfl
    have hc9 := W_reader_skip_c hG h7 hM
    refine wl_cons rfl (e_call rfl Tryd.func28 rfl rfl (args1 (hS.ev_ rfl)) hc9 ?_)
    rintro _ w ⟨K8, hlK8, hM, rfl⟩
    refine ⟨_, rfl, ?_⟩
    refine pl hS rfl (by decide) fun a hS => ?_
    refine st_done ?_
    replace hS : Slots 44 [] a [(6, (Value.slice none 0 0)), (5, Value.pointer (some ⟨g3, 0, none⟩)), (4, eV w0 ((none : Option Nat))), (3, Value.int .i64 (0)), (2, Value.slice none 0 0)] := (hS.part (.cons rfl (.cons rfl (.cons rfl (.cons rfl (.cons rfl (.nil _)))))))
    refine x_then ?_
    refine wp_block ?_
    obtain ⟨o21, h22, h⟩ := bindO h
    refine c_loop_ways (fun e a w => (e = .exit 0 ∧ ∃ (K23 : Hp) (x24 : (List UInt8) × Int × (List W_Token)) (v25 : Value), Hp.le K8 K23 ∧ o21 = Sum.inl x24 ∧ Slots 44 [] a [(2, Value.slice none 0 0), (3, Value.int .i64 (0)), (4, eV w0 ((none : Option Nat))), (6, v25)] ∧ Sat w0 w K23 (SP.blk g3 62 [strV (x24.1), Value.int .i64 (x24.2.1)] :: SP.row kW_Token 24 v25 x24.2.2 :: L)) ∨ (e = .ret ∧ ∃ (K26 : Hp) (x27 : Int × (Option Nat) × (List UInt8) × Int × (List W_Token)) (v28 : Value), Hp.le K8 K26 ∧ o21 = Sum.inr x27 ∧ Slots 44 [] a [(2, Value.slice none 0 0), (3, Value.int .i64 (x27.1)), (4, eV w0 x27.2.1)] ∧ Sat w0 w K26 (SP.blk g3 62 [strV (x27.2.2.1), Value.int .i64 (x27.2.2.2.1)] :: SP.row kW_Token 24 v28 x27.2.2.2.2 :: L))) ?_ ?_
    · intro c Q hc hQ
      have key : ∀ (x17 : List UInt8) (x18 : Int) (x19 : List W_Token) (r' : Sum ((List UInt8) × Int × (List W_Token)) (Int × (Option Nat) × (List UInt8) × Int × (List W_Token))), W_Split_l1 x17 x18 x19 = some r' → r' = o21 → ∀ (K16 : Hp) (v20 : Value) (a : Act) (w : World), Hp.le K8 K16 → Slots 44 [] a [(5, Value.pointer (some ⟨g3, 0, none⟩)), (4, eV w0 ((none : Option Nat))), (3, Value.int .i64 (0)), (2, Value.slice none 0 0), (6, v20)] → Sat w0 w K16 (SP.blk g3 62 [strV (x17), Value.int .i64 (x18)] :: SP.row kW_Token 24 v20 x19 :: L) → Rnd Tryd.prog c Q a w := by
        refine W_Split_l1.partial_correctness _ ?_
        intro W_Split_l1_rec ih x17 x18 x19 r' h hr K16 v20 a w hlK16 hS hM 
        subst hc
        refine c_round ?_
        refine wp_seq ?_
        refine wp_seq ?_
        refine wp_region_lit ?_
        refine st_val hS rfl rfl (by decide) (r_move rfl (hS.ev_ rfl)) fun a hS => ?_
        obtain ⟨y29, h30, h⟩ := bindO h
        have hc32 := W_reader_ends_c hG h30 hM
        refine wl_cons rfl (e_call rfl Tryd.func29 rfl rfl (args1 (hS.ev_ rfl)) hc32 ?_)
        rintro _ w ⟨K31, hlK31, hM, rfl⟩
        refine ⟨_, rfl, ?_⟩
        refine pl hS rfl (by decide) fun a hS => ?_
        refine st_val hS rfl rfl (by decide) (r_not rfl (hS.ev_ rfl)) fun a hS => ?_
        refine st_done ?_
        replace hS : Slots 44 [] a [(21, Value.bool (!y29.1)), (5, Value.pointer (some ⟨g3, 0, none⟩)), (4, eV w0 ((none : Option Nat))), (3, Value.int .i64 (0)), (2, Value.slice none 0 0), (6, v20)] := (hS.part (.cons rfl (.cons rfl (.cons rfl (.cons rfl (.cons rfl (.cons rfl (.nil _))))))))
        refine x_then ?_
        rcases ifB h with ⟨hc33, h⟩ | ⟨hc33, h⟩
        · refine c_cond_true (hS.ev_ rfl) hc33 ?_
          refine wp_skip ?_
          refine x_then ?_
          refine wp_seq ?_
          refine wp_block ?_
          refine wp_seq ?_
          refine wp_region_lit ?_
          refine st_val hS rfl rfl (by decide) (r_move rfl (hS.ev_ rfl)) fun a hS => ?_
          refine st_val hS rfl rfl (by decide) (r_nilCheck rfl (hS.ev_ rfl)) fun a hS => ?_
          refine st_val hS rfl rfl (by decide) (r_fld_b rfl fo_62_1 (hS.ev_ rfl)) fun a hS => ?_
          refine st_val hS rfl rfl (by decide) (r_ld1_b rfl ag_3 (hS.ev_ rfl) rfl (Rd.of hM)) fun a hS => ?_
          refine st_val hS rfl rfl (by decide) (r_assign rfl (hS.ev_ rfl)) fun a hS => ?_
          refine st_done ?_
          replace hS : Slots 44 [] a [(7, Value.int .i64 (y29.2.f_at)), (5, Value.pointer (some ⟨g3, 0, none⟩)), (4, eV w0 ((none : Option Nat))), (3, Value.int .i64 (0)), (2, Value.slice none 0 0), (6, v20)] := (hS.part (.cons rfl (.cons rfl (.cons rfl (.cons rfl (.cons rfl (.cons rfl (.nil _))))))))
          refine x_then ?_
          refine wp_seq ?_
          refine wp_region_lit ?_
          refine st_val hS rfl rfl (by decide) (r_move rfl (hS.ev_ rfl)) fun a hS => ?_
          obtain ⟨y34, h35, h⟩ := bindO h
          have hc37 := W_reader_token_c hG h35 hM
          refine wl_cons rfl (e_call rfl Tryd.func30 rfl rfl (args1 (hS.ev_ rfl)) hc37 ?_)
          rintro _ w ⟨K36, v38, hlK36, hM, rfl, f39⟩
          refine ⟨_, rfl, ?_⟩
          refine pl hS rfl (by decide) fun a hS => ?_
          refine st_val hS rfl rfl (by decide) (r_move rfl (hS.ev_ rfl)) fun a hS => ?_
          refine st_val hS rfl rfl (by decide) (r_extract rfl (hS.ev_ rfl) rfl) fun a hS => ?_
          refine st_val hS rfl rfl (by decide) (r_extract rfl (hS.ev_ rfl) rfl) fun a hS => ?_
          refine wl_cons rfl (e_alloc (cs := [Value.int .i64 (0), strV (([] : List UInt8)), Value.int .i64 (0), Value.slice none 0 0, Value.int .i64 (0)]) hM rfl ti_24 rfl fun g40 w hM => ?_)
          refine pl hS rfl (by decide) fun a hS => ?_
          refine wl_cons rfl (e_storeN (vs := [Value.int .i64 (y34.1.f_Kind), strV (y34.1.f_Text), Value.int .i64 (y34.1.f_Number), v38, Value.int .i64 (y34.1.f_At)]) hM rfl ti_24 (hS.ev_ rfl) (hS.ev_ rfl) (ones_cons rfl (ones_cons rfl (ones_cons rfl (ones_cons (sl_one f39) (ones_cons rfl ones_nil))))) (Nat.le_of_ble_eq_true rfl) fun w hM => ?_)
          have hM : Sat w0 w K36 (SP.blk g40 24 [Value.int .i64 (y34.1.f_Kind), strV (y34.1.f_Text), Value.int .i64 (y34.1.f_Number), v38, Value.int .i64 (y34.1.f_At)] :: SP.blk g3 62 [strV (y34.2.2.f_s), Value.int .i64 (y34.2.2.f_at)] :: SP.row kW_Token 24 v20 x19 :: L) := hM
          refine pl0 hS rfl fun a hS => ?_
          refine st_val hS rfl rfl (by decide) (r_assign rfl (hS.ev_ rfl)) fun a hS => ?_
          refine st_done ?_
          replace hS : Slots 44 [] a [(9, eV w0 y34.2.1), (8, Value.pointer (some ⟨g40, 0, none⟩)), (7, Value.int .i64 (y29.2.f_at)), (5, Value.pointer (some ⟨g3, 0, none⟩)), (4, eV w0 ((none : Option Nat))), (3, Value.int .i64 (0)), (2, Value.slice none 0 0), (6, v20)] := (hS.part (.cons rfl (.cons rfl (.cons rfl (.cons rfl (.cons rfl (.cons rfl (.cons rfl (.cons rfl (.nil _))))))))))
          refine x_then ?_
          refine wp_seq ?_
          refine wp_seq ?_
          refine wp_region_lit ?_
          refine st_val hS rfl rfl (by decide) (r_move rfl (hS.ev_ rfl)) fun a hS => ?_
          refine st_val hS rfl rfl (by decide) (r_errnot rfl if_41 (hS.ev_ (v := eV w0 y34.2.1) rfl)) fun a hS => ?_
          refine st_done ?_
          replace hS : Slots 44 [] a [(34, Value.bool (y34.2.1.isSome)), (9, eV w0 y34.2.1), (8, Value.pointer (some ⟨g40, 0, none⟩)), (7, Value.int .i64 (y29.2.f_at)), (5, Value.pointer (some ⟨g3, 0, none⟩)), (4, eV w0 ((none : Option Nat))), (3, Value.int .i64 (0)), (2, Value.slice none 0 0), (6, v20)] := (hS.part (.cons rfl (.cons rfl (.cons rfl (.cons rfl (.cons rfl (.cons rfl (.cons rfl (.cons rfl (.cons rfl (.nil _)))))))))))
          refine x_then ?_
          rcases ifB h with ⟨hc42, h⟩ | ⟨hc42, h⟩
          · refine c_cond_true (hS.ev_ rfl) hc42 ?_
            refine wp_seq ?_
            refine wp_region_lit ?_
            refine st_val hS rfl rfl (by decide) (r_move rfl (hS.ev_ rfl)) fun a hS => ?_
            refine st_val hS rfl rfl (by decide) (r_move rfl (hS.ev_ rfl)) fun a hS => ?_
            refine st_val hS rfl rfl (by decide) (r_assign rfl (hS.ev_ rfl)) fun a hS => ?_
            refine st_val hS rfl rfl (by decide) (r_assign rfl (hS.ev_ rfl)) fun a hS => ?_
            refine st_val hS rfl rfl (by decide) (r_assign rfl (hS.ev_ rfl)) fun a hS => ?_
            refine st_done ?_
            replace hS : Slots 44 [] a [(4, eV w0 y34.2.1), (3, Value.int .i64 (y29.2.f_at)), (2, Value.slice none 0 0), (8, Value.pointer (some ⟨g40, 0, none⟩)), (7, Value.int .i64 (y29.2.f_at)), (5, Value.pointer (some ⟨g3, 0, none⟩)), (6, v20)] := (hS.part (.cons rfl (.cons rfl (.cons rfl (.cons rfl (.cons rfl (.cons rfl (.cons rfl (.nil _)))))))))
            refine x_then ?_
            refine wp_ret ?_
            refine x_then_ret ?_
            refine x_block_ret ?_
            refine x_then_ret ?_
            refine x_then_ret ?_
            have ho' := (Option.some.inj h).trans hr
            refine hQ _ _ _ ?_
            exact .inr (⟨rfl, K36, ((y29.2.f_at, y34.2.1, y34.2.2.f_s, y34.2.2.f_at, x19)), (v20), ((hlK16.trans hlK31).trans hlK36), ho'.symm, (hS.part (.cons rfl (.cons rfl (.cons rfl (.nil _))))), (((hM).tail.pull 1 rfl rfl).pull 1 rfl rfl)⟩)
          · refine c_cond_false (hS.ev_ rfl) hc42 ?_
            refine wp_skip ?_
            refine x_then ?_
            refine wp_seq ?_
            refine wp_region_lit ?_
            refine st_val hS rfl rfl (by decide) (r_move rfl (hS.ev_ rfl)) fun a hS => ?_
            refine st_val hS rfl rfl (by decide) (r_fld_b rfl fo_24_4 (hS.ev_ rfl)) fun a hS => ?_
            refine wl_cons rfl (e_store1 hM rfl ti_3 (hS.ev_ rfl) (hS.ev_ rfl) rfl (Nat.lt_of_lt_of_le (Nat.le_of_ble_eq_true rfl) (Nat.le_refl _)) fun w hM => ?_)
            have hM : Sat w0 w K36 (SP.blk g40 24 [Value.int .i64 (y34.1.f_Kind), strV (y34.1.f_Text), Value.int .i64 (y34.1.f_Number), v38, Value.int .i64 (y29.2.f_at)] :: SP.blk g3 62 [strV (y34.2.2.f_s), Value.int .i64 (y34.2.2.f_at)] :: SP.row kW_Token 24 v20 x19 :: L) := hM
            refine pl0 hS rfl fun a hS => ?_
            refine st_done ?_
            replace hS : Slots 44 [] a [(8, Value.pointer (some ⟨g40, 0, none⟩)), (5, Value.pointer (some ⟨g3, 0, none⟩)), (4, eV w0 ((none : Option Nat))), (3, Value.int .i64 (0)), (2, Value.slice none 0 0), (6, v20)] := (hS.part (.cons rfl (.cons rfl (.cons rfl (.cons rfl (.cons rfl (.cons rfl (.nil _))))))))
            refine x_then ?_
            refine wp_region_lit ?_
            refine st_val hS rfl rfl (by decide) (r_move rfl (hS.ev_ rfl)) fun a hS => ?_
            refine st_val hS rfl rfl (by decide) (r_ldN_b (cs' := [Value.int .i64 (y34.1.f_Kind), strV (y34.1.f_Text), Value.int .i64 (y34.1.f_Number), v38, Value.int .i64 (y29.2.f_at)]) rfl ag_24 ti_24 (hS.ev_ rfl) rfl (Rd.of hM)) fun a hS => ?_
            refine wl_cons rfl (e_litK (d := kW_Token) (e := 24) (cs := [Value.int .i64 (y34.1.f_Kind), strV (y34.1.f_Text), Value.int .i64 (y34.1.f_Number), v38, Value.int .i64 (y29.2.f_at)]) (xs := [(⟨y34.1.f_Kind, y34.1.f_Text, y34.1.f_Number, y34.1.f_Pieces, y29.2.f_at⟩ : W_Token)]) hM rfl (parts_ev hS rfl) (by obtain ⟨_, _, hvv, _⟩ := sl_val f39; rw [hvv]; clear hvv; kernel_rfl) ⟨[Value.int .i64 (y34.1.f_Kind), strV (y34.1.f_Text), Value.int .i64 (y34.1.f_Number), v38, Value.int .i64 (y29.2.f_at)], [], rfl, (kW_Token_shut f39), rfl⟩ rfl (by decide) fun v43 K44 w hlK44 hM f45 => ?_)
            refine pl hS rfl (by decide) fun a hS => ?_
            replace hM := hM.pull 2 rfl rfl
            obtain ⟨h46, h⟩ := bindU h
            refine wl_cons rfl (e_apd_sl hM rfl un_39 un_39 ti_24 rfl rfl (by decide) (hS.ev_ rfl) (hS.ev_ rfl) f45 (req_some h46) fun v47 w hM => ?_)
            refine pl hS rfl (by decide) fun a hS => ?_
            refine st_val hS rfl rfl (by decide) (r_assign rfl (hS.ev_ rfl)) fun a hS => ?_
            refine st_done ?_
            replace hS : Slots 44 [] a [(6, v47), (5, Value.pointer (some ⟨g3, 0, none⟩)), (4, eV w0 ((none : Option Nat))), (3, Value.int .i64 (0)), (2, Value.slice none 0 0)] := (hS.part (.cons rfl (.cons rfl (.cons rfl (.cons rfl (.cons rfl (.nil _)))))))
            refine x_block ?_
            refine x_then ?_
            refine wp_region_lit ?_
            refine st_val hS rfl rfl (by decide) (r_move rfl (hS.ev_ rfl)) fun a hS => ?_
            obtain ⟨y48, h49, h⟩ := bindO h
            replace hM := hM.pull 2 rfl rfl
            have hc51 := W_reader_skip_c hG h49 hM
            refine wl_cons rfl (e_call rfl Tryd.func28 rfl rfl (args1 (hS.ev_ rfl)) hc51 ?_)
            rintro _ w ⟨K50, hlK50, hM, rfl⟩
            refine ⟨_, rfl, ?_⟩
            refine pl hS rfl (by decide) fun a hS => ?_
            refine st_done ?_
            replace hS : Slots 44 [] a [(6, v47), (5, Value.pointer (some ⟨g3, 0, none⟩)), (4, eV w0 ((none : Option Nat))), (3, Value.int .i64 (0)), (2, Value.slice none 0 0)] := (hS.part (.cons rfl (.cons rfl (.cons rfl (.cons rfl (.cons rfl (.nil _)))))))
            refine x_then ?_
            exact ih y48.f_s y48.f_at (x19 ++ [(⟨y34.1.f_Kind, y34.1.f_Text, y34.1.f_Number, y34.1.f_Pieces, y29.2.f_at⟩ : W_Token)]) _ h hr K50 (v47) _ _ ((((hlK16.trans hlK31).trans hlK36).trans hlK44).trans hlK50) (hS.part (.cons rfl (.cons rfl (.cons rfl (.cons rfl (.cons rfl (.nil _))))))) ((((hM.pull 2 rfl rfl).tail.pull 1 rfl rfl).pull 1 rfl rfl))
        · refine c_cond_false (hS.ev_ rfl) hc33 ?_
          refine wp_exit ?_
          refine x_then_exit ?_
          refine x_then_exit ?_
          have ho' := (Option.some.inj h).trans hr
          refine hQ _ _ _ ?_
          exact .inl ⟨rfl, K31, ((y29.2.f_s, y29.2.f_at, x19)), (v20), (hlK16.trans hlK31), ho'.symm, (hS.part (.cons rfl (.cons rfl (.cons rfl (.cons rfl (.nil _)))))), ((hM.pull 1 rfl rfl).pull 1 rfl rfl)⟩
      exact key y6.f_s y6.f_at (([] : List W_Token)) _ h22 rfl K8 ((Value.slice none 0 0)) _ _ (Hp.le.refl _) (hS.part (.cons rfl (.cons rfl (.cons rfl (.cons rfl (.cons rfl (.nil _))))))) (((hM.pull 1 rfl rfl).pull 1 rfl rfl))
    · rintro e a w (⟨rfl, K23, x24, v25, hlK23, ho', hS, hM⟩ | ⟨rfl, K26, x27, v28, hlK26, ho', hS, hM⟩)
      · subst ho'
        dsimp only at h
        refine x_block_here ?_
        refine x_then ?_
        refine wp_seq ?_
        refine wp_region_lit ?_
        refine st_val hS rfl rfl (by decide) (r_move rfl (hS.ev_ rfl)) fun a hS => ?_
        refine st_val hS rfl rfl (by decide) (r_assign rfl (hS.ev_ rfl)) fun a hS => ?_
        refine st_val hS rfl rfl (by decide) (r_assign rfl (hS.ev_ rfl)) fun a hS => ?_
        refine st_val hS rfl rfl (by decide) (r_assign rfl (hS.ev_ rfl)) fun a hS => ?_
        refine st_done ?_
        replace hS : Slots 44 [] a [(4, eV w0 ((none : Option Nat))), (3, Value.int .i64 (0)), (2, v25)] := (hS.part (.cons rfl (.cons rfl (.cons rfl (.nil _)))))
        refine x_then ?_
        refine wp_ret ?_
        replace hM := hM.pull 1 rfl rfl
        obtain ⟨K52, hlK52, hM, f53⟩ := keep_row hM
        have hr' := Option.some.inj h
        subst hr'
        refine ret3 (.inr rfl) hS rfl rfl rfl rfl ?_
        exact ⟨K52, (v25), ((hlK8.trans hlK23).trans hlK52), (hM).tail, rfl, f53⟩
      · subst ho'
        dsimp only at h
        refine x_block_ret ?_
        refine x_then_ret ?_
        have hr' := Option.some.inj h
        subst hr'
        refine ret3 (.inr rfl) hS rfl rfl rfl rfl ?_
        exact ⟨K26, (Value.slice none 0 0), (hlK8.trans hlK26), ((hM).tail).tail, rfl, (Kd.sl_nil _ _)⟩

theorem Law_alive_c {w0 w : World} {K : Hp} {L : List SP} {r : Bool} (hG : Glob w0) (h : Law_alive = some r) (hM : Sat w0 w K (L)) :
    Calls Tryd.prog 5 #[] w (fun e w' => ∃ (K' : Hp), Hp.le K K' ∧ Sat w0 w' K' (L) ∧ e = .returned (Value.bool (r))) := by
  refine enter_ (n := 51) (args := []) Tryd.func5 rfl rfl (Nat.le_of_ble_eq_true rfl) fun a hS => ?_
  replace hS : Slots 51 [] a [] := hS
  unfold Law_alive at h
  refine wp_seq ?_
  refine wp_region_lit ?_
  refine st_val hS rfl rfl (by decide) (r_assign rfl (hS.ev_ rfl)) fun a hS => ?_
  refine st_done ?_
  replace hS : Slots 51 [] a [(0, Value.bool (false))] := (hS.part (.cons rfl (.nil _)))
  refine x_then ?_
  refine wp_seq ?_
  refine wp_region_lit ?_
  obtain ⟨y1, h2, h⟩ := bindO h
  have hc4 := W_Split_c hG h2 hM
  refine wl_cons rfl (e_call rfl Tryd.func15 rfl rfl (args1 (hS.ev_ (v := strV (([115, 101, 110, 100, 32, 34, 97, 36, 98, 92, 110, 34] : List UInt8))) rfl)) hc4 ?_)
  rintro _ w ⟨K3, v5, hlK3, hM, rfl, f6⟩
  refine ⟨_, rfl, ?_⟩
  refine pl hS rfl (by decide) fun a hS => ?_
  refine st_val hS rfl rfl (by decide) (r_move rfl (hS.ev_ rfl)) fun a hS => ?_
  refine st_val hS rfl rfl (by decide) (r_extract rfl (hS.ev_ rfl) rfl) fun a hS => ?_
  refine st_val hS rfl rfl (by decide) (r_extract rfl (hS.ev_ rfl) rfl) fun a hS => ?_
  refine st_val hS rfl rfl (by decide) (r_extract rfl (hS.ev_ rfl) rfl) fun a hS => ?_
  refine st_val hS rfl rfl (by decide) (r_assign rfl (hS.ev_ rfl)) fun a hS => ?_
  refine st_val hS rfl rfl (by decide) (r_assign rfl (hS.ev_ rfl)) fun a hS => ?_
  refine st_val hS rfl rfl (by decide) (r_assign rfl (hS.ev_ rfl)) fun a hS => ?_
  refine st_done ?_
  replace hS : Slots 51 [] a [(3, eV w0 y1.2.2), (1, v5), (0, Value.bool (false))] := (hS.part (.cons rfl (.cons rfl (.cons rfl (.nil _)))))
  refine x_then ?_
  refine wp_seq ?_
  refine wp_region_lit ?_
  refine st_val hS rfl rfl (by decide) (r_move rfl (hS.ev_ rfl)) fun a hS => ?_
  refine st_val hS rfl rfl (by decide) (r_errnil rfl if_41 (hS.ev_ (v := eV w0 y1.2.2) rfl)) fun a hS => ?_
  refine st_val hS rfl rfl (by decide) (r_move rfl (hS.ev_ rfl)) fun a hS => ?_
  obtain ⟨x7, h8, h⟩ := bindO h
  refine wl_cut 4 (fun a w => Slots 51 [] a [(0, Value.bool (false)), (1, v5), (15, Value.bool (x7))] ∧ Sat w0 w K3 (L)) ?_ ?_
  ·
    skip
    rcases ifB h8 with ⟨hc9, h8⟩ | ⟨hc9, h8⟩
    ·
      replace hS := hS.known (k := 11) rfl hc9
      refine st_want hS rfl rfl rfl rfl rfl (by decide) (r_move rfl (hS.ev_ rfl)) fun a hS => ?_
      refine st_want hS rfl rfl rfl rfl rfl (by decide) (r_len_sl rfl un_39 (hS.ev_ rfl) f6) fun a hS => ?_
      refine st_want hS rfl rfl rfl rfl rfl (by decide) (r_cmp rfl (hS.ev_ rfl) (hS.ev_ rfl) rfl) fun a hS => ?_
      refine st_val hS rfl rfl (by decide) (r_pick_true rfl (hS.ev_ rfl) rfl (hS.ev_ rfl)) fun a hS => ?_
      refine st_done ?_
      replace hS : Slots 51 [] a [(15, Value.bool (((y1.1.length : Int)) == 2)), (1, v5), (0, Value.bool (false))] := (hS.part (.cons rfl (.cons rfl (.cons rfl (.nil _)))))
      refine x_then ?_
      obtain rfl := Option.some.inj h8
      exact ⟨(hS.part (.cons rfl (.cons rfl (.cons rfl (.nil _))))), hM⟩
    ·
      replace hS := hS.known (k := 11) rfl hc9
      refine st_off hS rfl rfl rfl rfl rfl rfl (by decide) fun a hS => ?_
      refine st_off hS rfl rfl rfl rfl rfl rfl (by decide) fun a hS => ?_
      refine st_off hS rfl rfl rfl rfl rfl rfl (by decide) fun a hS => ?_
      refine st_val hS rfl rfl (by decide) (r_pick_false rfl (hS.ev_ rfl) rfl (hS.ev_ rfl)) fun a hS => ?_
      refine st_done ?_
      replace hS : Slots 51 [] a [(15, Value.bool (false)), (1, v5), (0, Value.bool (false))] := (hS.part (.cons rfl (.cons rfl (.cons rfl (.nil _)))))
      refine x_then ?_
      obtain rfl := Option.some.inj h8
      exact ⟨(hS.part (.cons rfl (.cons rfl (.cons rfl (.nil _))))), hM⟩
  · rintro a w ⟨hS, hM⟩
    refine st_val hS rfl rfl (by decide) (r_move rfl (hS.ev_ rfl)) fun a hS => ?_
    obtain ⟨x10, h11, h⟩ := bindO h
    refine wl_cut 6 (fun a w => Slots 51 [] a [(0, Value.bool (false)), (1, v5), (22, Value.bool (x10))] ∧ Sat w0 w K3 (L)) ?_ ?_
    ·
      skip
      rcases ifB h11 with ⟨hc12, h11⟩ | ⟨hc12, h11⟩
      ·
        replace hS := hS.known (k := 16) rfl hc12
        refine st_want hS rfl rfl rfl rfl rfl (by decide) (r_move rfl (hS.ev_ rfl)) fun a hS => ?_
        obtain ⟨e13, h14, h11⟩ := bindO h11
        obtain ⟨ad15, cp16, cs17, hv18, hr19, h0_20, h1_21, hq22⟩ := sl_at f6 h14 (by decide)
        obtain ⟨v23, rfl, f24⟩ := kW_Token_open hr19
        refine st_want hS rfl rfl rfl rfl rfl (by decide) (r_idx_sl rfl un_39 ti_24 (hS.ev_ rfl) hv18 (hS.ev_ rfl) h0_20 h1_21) fun a hS => ?_
        refine st_want hS rfl rfl rfl rfl rfl (by decide) (r_fld_k rfl fo_24_0 (hS.ev_ rfl)) fun a hS => ?_
        refine st_want hS rfl rfl rfl rfl rfl (by decide) (r_ld1_k rfl ag_3 (hS.ev_ rfl) hq22 rfl (Rd.up (Hp.le.refl _) hM.nil_)) fun a hS => ?_
        refine st_want hS rfl rfl rfl rfl rfl (by decide) (r_cmp rfl (hS.ev_ rfl) (hS.ev_ rfl) rfl) fun a hS => ?_
        refine st_val hS rfl rfl (by decide) (r_pick_true rfl (hS.ev_ rfl) rfl (hS.ev_ rfl)) fun a hS => ?_
        refine st_done ?_
        replace hS : Slots 51 [] a [(22, Value.bool (e13.f_Kind == 1)), (0, Value.bool (false)), (1, v5)] := (hS.part (.cons rfl (.cons rfl (.cons rfl (.nil _)))))
        refine x_then ?_
        obtain rfl := Option.some.inj h11
        exact ⟨(hS.part (.cons rfl (.cons rfl (.cons rfl (.nil _))))), hM⟩
      ·
        replace hS := hS.known (k := 16) rfl hc12
        refine st_off hS rfl rfl rfl rfl rfl rfl (by decide) fun a hS => ?_
        refine st_off hS rfl rfl rfl rfl rfl rfl (by decide) fun a hS => ?_
        refine st_off hS rfl rfl rfl rfl rfl rfl (by decide) fun a hS => ?_
        refine st_off hS rfl rfl rfl rfl rfl rfl (by decide) fun a hS => ?_
        refine st_off hS rfl rfl rfl rfl rfl rfl (by decide) fun a hS => ?_
        refine st_val hS rfl rfl (by decide) (r_pick_false rfl (hS.ev_ rfl) rfl (hS.ev_ rfl)) fun a hS => ?_
        refine st_done ?_
        replace hS : Slots 51 [] a [(22, Value.bool (false)), (0, Value.bool (false)), (1, v5)] := (hS.part (.cons rfl (.cons rfl (.cons rfl (.nil _)))))
        refine x_then ?_
        obtain rfl := Option.some.inj h11
        exact ⟨(hS.part (.cons rfl (.cons rfl (.cons rfl (.nil _))))), hM⟩
    · rintro a w ⟨hS, hM⟩
      refine st_val hS rfl rfl (by decide) (r_move rfl (hS.ev_ rfl)) fun a hS => ?_
      obtain ⟨x25, h26, h⟩ := bindO h
      refine wl_cut 7 (fun a w => Slots 51 [] a [(0, Value.bool (false)), (1, v5), (30, Value.bool (x25))] ∧ Sat w0 w K3 (L)) ?_ ?_
      ·
        skip
        rcases ifB h26 with ⟨hc27, h26⟩ | ⟨hc27, h26⟩
        ·
          replace hS := hS.known (k := 23) rfl hc27
          refine st_want hS rfl rfl rfl rfl rfl (by decide) (r_move rfl (hS.ev_ rfl)) fun a hS => ?_
          obtain ⟨e28, h29, h26⟩ := bindO h26
          obtain ⟨ad30, cp31, cs32, hv33, hr34, h0_35, h1_36, hq37⟩ := sl_at f6 h29 (by decide)
          obtain ⟨v38, rfl, f39⟩ := kW_Token_open hr34
          refine st_want hS rfl rfl rfl rfl rfl (by decide) (r_idx_sl rfl un_39 ti_24 (hS.ev_ rfl) hv33 (hS.ev_ rfl) h0_35 h1_36) fun a hS => ?_
          refine st_want hS rfl rfl rfl rfl rfl (by decide) (r_fld_k rfl fo_24_3 (hS.ev_ rfl)) fun a hS => ?_
          refine st_want hS rfl rfl rfl rfl rfl (by decide) (r_ld1_k rfl ag_22 (hS.ev_ rfl) hq37 rfl (Rd.up (Hp.le.refl _) hM.nil_)) fun a hS => ?_
          refine st_want hS rfl rfl rfl rfl rfl (by decide) (r_len_sl rfl un_22 (hS.ev_ rfl) f39) fun a hS => ?_
          refine st_want hS rfl rfl rfl rfl rfl (by decide) (r_cmp rfl (hS.ev_ rfl) (hS.ev_ rfl) rfl) fun a hS => ?_
          refine st_val hS rfl rfl (by decide) (r_pick_true rfl (hS.ev_ rfl) rfl (hS.ev_ rfl)) fun a hS => ?_
          refine st_done ?_
          replace hS : Slots 51 [] a [(30, Value.bool (((e28.f_Pieces.length : Int)) == 3)), (0, Value.bool (false)), (1, v5)] := (hS.part (.cons rfl (.cons rfl (.cons rfl (.nil _)))))
          refine x_then ?_
          obtain rfl := Option.some.inj h26
          exact ⟨(hS.part (.cons rfl (.cons rfl (.cons rfl (.nil _))))), hM⟩
        ·
          replace hS := hS.known (k := 23) rfl hc27
          refine st_off hS rfl rfl rfl rfl rfl rfl (by decide) fun a hS => ?_
          refine st_off hS rfl rfl rfl rfl rfl rfl (by decide) fun a hS => ?_
          refine st_off hS rfl rfl rfl rfl rfl rfl (by decide) fun a hS => ?_
          refine st_off hS rfl rfl rfl rfl rfl rfl (by decide) fun a hS => ?_
          refine st_off hS rfl rfl rfl rfl rfl rfl (by decide) fun a hS => ?_
          refine st_off hS rfl rfl rfl rfl rfl rfl (by decide) fun a hS => ?_
          refine st_val hS rfl rfl (by decide) (r_pick_false rfl (hS.ev_ rfl) rfl (hS.ev_ rfl)) fun a hS => ?_
          refine st_done ?_
          replace hS : Slots 51 [] a [(30, Value.bool (false)), (0, Value.bool (false)), (1, v5)] := (hS.part (.cons rfl (.cons rfl (.cons rfl (.nil _)))))
          refine x_then ?_
          obtain rfl := Option.some.inj h26
          exact ⟨(hS.part (.cons rfl (.cons rfl (.cons rfl (.nil _))))), hM⟩
      · rintro a w ⟨hS, hM⟩
        refine st_val hS rfl rfl (by decide) (r_move rfl (hS.ev_ rfl)) fun a hS => ?_
        obtain ⟨x40, h41, h⟩ := bindO h
        refine wl_cut 9 (fun a w => Slots 51 [] a [(0, Value.bool (false)), (1, v5), (40, Value.bool (x40))] ∧ Sat w0 w K3 (L)) ?_ ?_
        ·
          skip
          rcases ifB h41 with ⟨hc42, h41⟩ | ⟨hc42, h41⟩
          ·
            replace hS := hS.known (k := 31) rfl hc42
            refine st_want hS rfl rfl rfl rfl rfl (by decide) (r_move rfl (hS.ev_ rfl)) fun a hS => ?_
            obtain ⟨e43, h44, h41⟩ := bindO h41
            obtain ⟨ad45, cp46, cs47, hv48, hr49, h0_50, h1_51, hq52⟩ := sl_at f6 h44 (by decide)
            obtain ⟨v53, rfl, f54⟩ := kW_Token_open hr49
            refine st_want hS rfl rfl rfl rfl rfl (by decide) (r_idx_sl rfl un_39 ti_24 (hS.ev_ rfl) hv48 (hS.ev_ rfl) h0_50 h1_51) fun a hS => ?_
            refine st_want hS rfl rfl rfl rfl rfl (by decide) (r_fld_k rfl fo_24_3 (hS.ev_ rfl)) fun a hS => ?_
            refine st_want hS rfl rfl rfl rfl rfl (by decide) (r_ld1_k rfl ag_22 (hS.ev_ rfl) hq52 rfl (Rd.up (Hp.le.refl _) hM.nil_)) fun a hS => ?_
            obtain ⟨e55, h56, h41⟩ := bindO h41
            obtain ⟨ad57, cp58, cs59, hv60, hr61, h0_62, h1_63, hq64⟩ := sl_at f54 h56 (by decide)
            obtain rfl := kW_Piece_open hr61
            refine st_want hS rfl rfl rfl rfl rfl (by decide) (r_idx_sl rfl un_22 ti_46 (hS.ev_ rfl) hv60 (hS.ev_ rfl) h0_62 h1_63) fun a hS => ?_
            refine st_want hS rfl rfl rfl rfl rfl (by decide) (r_fld_k rfl fo_46_0 (hS.ev_ rfl)) fun a hS => ?_
            refine st_want hS rfl rfl rfl rfl rfl (by decide) (r_ld1_k rfl ag_9 (hS.ev_ rfl) hq64 rfl (Rd.up (Hp.le.refl _) hM.nil_)) fun a hS => ?_
            refine st_want hS rfl rfl rfl rfl rfl (by decide) (r_seq rfl (hS.ev_ rfl) (hS.ev_ (v := strV (([98] : List UInt8))) rfl)) fun a hS => ?_
            refine st_val hS rfl rfl (by decide) (r_pick_true rfl (hS.ev_ rfl) rfl (hS.ev_ rfl)) fun a hS => ?_
            refine st_done ?_
            replace hS : Slots 51 [] a [(40, Value.bool (e55.f_Var == ([98] : List UInt8))), (0, Value.bool (false)), (1, v5)] := (hS.part (.cons rfl (.cons rfl (.cons rfl (.nil _)))))
            refine x_then ?_
            obtain rfl := Option.some.inj h41
            exact ⟨(hS.part (.cons rfl (.cons rfl (.cons rfl (.nil _))))), hM⟩
          ·
            replace hS := hS.known (k := 31) rfl hc42
            refine st_off hS rfl rfl rfl rfl rfl rfl (by decide) fun a hS => ?_
            refine st_off hS rfl rfl rfl rfl rfl rfl (by decide) fun a hS => ?_
            refine st_off hS rfl rfl rfl rfl rfl rfl (by decide) fun a hS => ?_
            refine st_off hS rfl rfl rfl rfl rfl rfl (by decide) fun a hS => ?_
            refine st_off hS rfl rfl rfl rfl rfl rfl (by decide) fun a hS => ?_
            refine st_off hS rfl rfl rfl rfl rfl rfl (by decide) fun a hS => ?_
            refine st_off hS rfl rfl rfl rfl rfl rfl (by decide) fun a hS => ?_
            refine st_off hS rfl rfl rfl rfl rfl rfl (by decide) fun a hS => ?_
            refine st_val hS rfl rfl (by decide) (r_pick_false rfl (hS.ev_ rfl) rfl (hS.ev_ rfl)) fun a hS => ?_
            refine st_done ?_
            replace hS : Slots 51 [] a [(40, Value.bool (false)), (0, Value.bool (false)), (1, v5)] := (hS.part (.cons rfl (.cons rfl (.cons rfl (.nil _)))))
            refine x_then ?_
            obtain rfl := Option.some.inj h41
            exact ⟨(hS.part (.cons rfl (.cons rfl (.cons rfl (.nil _))))), hM⟩
        · rintro a w ⟨hS, hM⟩
          refine st_val hS rfl rfl (by decide) (r_move rfl (hS.ev_ rfl)) fun a hS => ?_
          obtain ⟨x65, h66, h⟩ := bindO h
          refine wl_cut 9 (fun a w => Slots 51 [] a [(0, Value.bool (false)), (50, Value.bool (x65))] ∧ Sat w0 w K3 (L)) ?_ ?_
          ·
            skip
            rcases ifB h66 with ⟨hc67, h66⟩ | ⟨hc67, h66⟩
            ·
              replace hS := hS.known (k := 41) rfl hc67
              refine st_want hS rfl rfl rfl rfl rfl (by decide) (r_move rfl (hS.ev_ rfl)) fun a hS => ?_
              obtain ⟨e68, h69, h66⟩ := bindO h66
              obtain ⟨ad70, cp71, cs72, hv73, hr74, h0_75, h1_76, hq77⟩ := sl_at f6 h69 (by decide)
              obtain ⟨v78, rfl, f79⟩ := kW_Token_open hr74
              refine st_want hS rfl rfl rfl rfl rfl (by decide) (r_idx_sl rfl un_39 ti_24 (hS.ev_ rfl) hv73 (hS.ev_ rfl) h0_75 h1_76) fun a hS => ?_
              refine st_want hS rfl rfl rfl rfl rfl (by decide) (r_fld_k rfl fo_24_3 (hS.ev_ rfl)) fun a hS => ?_
              refine st_want hS rfl rfl rfl rfl rfl (by decide) (r_ld1_k rfl ag_22 (hS.ev_ rfl) hq77 rfl (Rd.up (Hp.le.refl _) hM.nil_)) fun a hS => ?_
              obtain ⟨e80, h81, h66⟩ := bindO h66
              obtain ⟨ad82, cp83, cs84, hv85, hr86, h0_87, h1_88, hq89⟩ := sl_at f79 h81 (by decide)
              obtain rfl := kW_Piece_open hr86
              refine st_want hS rfl rfl rfl rfl rfl (by decide) (r_idx_sl rfl un_22 ti_46 (hS.ev_ rfl) hv85 (hS.ev_ rfl) h0_87 h1_88) fun a hS => ?_
              refine st_want hS rfl rfl rfl rfl rfl (by decide) (r_fld_k rfl fo_46_1 (hS.ev_ rfl)) fun a hS => ?_
              refine st_want hS rfl rfl rfl rfl rfl (by decide) (r_ld1_k rfl ag_9 (hS.ev_ rfl) hq89 rfl (Rd.up (Hp.le.refl _) hM.nil_)) fun a hS => ?_
              refine st_want hS rfl rfl rfl rfl rfl (by decide) (r_seq rfl (hS.ev_ rfl) (hS.ev_ (v := strV (([10] : List UInt8))) rfl)) fun a hS => ?_
              refine st_val hS rfl rfl (by decide) (r_pick_true rfl (hS.ev_ rfl) rfl (hS.ev_ rfl)) fun a hS => ?_
              refine st_done ?_
              replace hS : Slots 51 [] a [(50, Value.bool (e80.f_Lit == ([10] : List UInt8))), (0, Value.bool (false))] := (hS.part (.cons rfl (.cons rfl (.nil _))))
              refine x_then ?_
              obtain rfl := Option.some.inj h66
              exact ⟨(hS.part (.cons rfl (.cons rfl (.nil _)))), hM⟩
            ·
              replace hS := hS.known (k := 41) rfl hc67
              refine st_off hS rfl rfl rfl rfl rfl rfl (by decide) fun a hS => ?_
              refine st_off hS rfl rfl rfl rfl rfl rfl (by decide) fun a hS => ?_
              refine st_off hS rfl rfl rfl rfl rfl rfl (by decide) fun a hS => ?_
              refine st_off hS rfl rfl rfl rfl rfl rfl (by decide) fun a hS => ?_
              refine st_off hS rfl rfl rfl rfl rfl rfl (by decide) fun a hS => ?_
              refine st_off hS rfl rfl rfl rfl rfl rfl (by decide) fun a hS => ?_
              refine st_off hS rfl rfl rfl rfl rfl rfl (by decide) fun a hS => ?_
              refine st_off hS rfl rfl rfl rfl rfl rfl (by decide) fun a hS => ?_
              refine st_val hS rfl rfl (by decide) (r_pick_false rfl (hS.ev_ rfl) rfl (hS.ev_ rfl)) fun a hS => ?_
              refine st_done ?_
              replace hS : Slots 51 [] a [(50, Value.bool (false)), (0, Value.bool (false))] := (hS.part (.cons rfl (.cons rfl (.nil _))))
              refine x_then ?_
              obtain rfl := Option.some.inj h66
              exact ⟨(hS.part (.cons rfl (.cons rfl (.nil _)))), hM⟩
          · rintro a w ⟨hS, hM⟩
            refine st_val hS rfl rfl (by decide) (r_assign rfl (hS.ev_ rfl)) fun a hS => ?_
            refine st_done ?_
            replace hS : Slots 51 [] a [(0, Value.bool (x65))] := (hS.part (.cons rfl (.nil _)))
            refine x_then ?_
            refine wp_ret ?_
            have hr' := Option.some.inj h
            subst hr'
            refine ret1 (.inr rfl) hS rfl rfl ?_
            exact ⟨K3, hlK3, hM, rfl⟩

theorem Law_long_c {w0 w : World} {K : Hp} {L : List SP} {p1 : List W_Piece} {v2 : Value} {r : Bool} (hG : Glob w0) (h : Law_long p1 = some r) (f3 : kW_Piece.sl K v2 p1) (hM : Sat w0 w K (L)) :
    Calls Tryd.prog 6 #[v2] w (fun e w' => ∃ (K' : Hp), Hp.le K K' ∧ Sat w0 w' K' (L) ∧ e = .returned (Value.bool (r))) := by
  refine enter_ (n := 25) (args := [v2]) Tryd.func6 rfl rfl (Nat.le_of_ble_eq_true rfl) fun a hS => ?_
  replace hS : Slots 25 [] a [(0, v2)] := hS
  unfold Law_long at h
  refine wp_seq ?_
  refine wp_region_lit ?_
  refine st_val hS rfl rfl (by decide) (r_assign rfl (hS.ev_ rfl)) fun a hS => ?_
  refine st_done ?_
  replace hS : Slots 25 [] a [(2, Value.bool (false)), (0, v2)] := (hS.part (.cons rfl (.cons rfl (.nil _))))
  refine x_then ?_
  refine wp_seq ?_
  refine wp_seq ?_
  refine wp_region_lit ?_
  refine st_val hS rfl rfl (by decide) (r_move rfl (hS.ev_ rfl)) fun a hS => ?_
  refine st_val hS rfl rfl (by decide) (r_len_sl rfl un_22 (hS.ev_ rfl) f3) fun a hS => ?_
  refine st_val hS rfl rfl (by decide) (r_cmp rfl (hS.ev_ rfl) (hS.ev_ rfl) rfl) fun a hS => ?_
  refine st_done ?_
  replace hS : Slots 25 [] a [(7, Value.bool (decide (((p1.length : Int)) > 60))), (2, Value.bool (false)), (0, v2)] := (hS.part (.cons rfl (.cons rfl (.cons rfl (.nil _)))))
  refine x_then ?_
  rcases ifB h with ⟨hc4, h⟩ | ⟨hc4, h⟩
  · refine c_cond_true (hS.ev_ rfl) hc4 ?_
    refine wp_seq ?_
    refine wp_region_lit ?_
    refine st_val hS rfl rfl (by decide) (r_assign rfl (hS.ev_ rfl)) fun a hS => ?_
    refine st_done ?_
    replace hS : Slots 25 [] a [(2, Value.bool (true)), (0, v2)] := (hS.part (.cons rfl (.cons rfl (.nil _))))
    refine x_then ?_
    refine wp_ret ?_
    refine x_then_ret ?_
    have hr' := Option.some.inj h
    subst hr'
    refine ret1 (.inr rfl) hS rfl rfl ?_
    exact ⟨K, (Hp.le.refl _), hM, rfl⟩
  · refine c_cond_false (hS.ev_ rfl) hc4 ?_
    refine wp_skip ?_
    refine x_then ?_
    refine wp_seq ?_
    refine wp_seq ?_
    refine wp_region_lit ?_
    refine st_val hS rfl rfl (by decide) (r_move rfl (hS.ev_ rfl)) fun a hS => ?_
    refine st_val hS rfl rfl (by decide) (r_len_sl rfl un_22 (hS.ev_ rfl) f3) fun a hS => ?_
    refine st_val hS rfl rfl (by decide) (r_move rfl (hS.ev_ rfl)) fun a hS => ?_
    refine st_done ?_
    replace hS : Slots 25 [] a [(10, Value.int .i64 (0)), (9, Value.int .i64 ((p1.length : Int))), (8, v2), (2, Value.bool (false))] := (hS.part (.cons rfl (.cons rfl (.cons rfl (.cons rfl (.nil _))))))
    refine x_then ?_
    refine wp_block ?_
    obtain ⟨o10, h11, h⟩ := bindO h
    refine c_loop_ways (fun e a w => (e = .exit 0 ∧ ∃ (K12 : Hp) (x13 : Unit), Hp.le K K12 ∧ o10 = Sum.inl x13 ∧ Slots 25 [] a [(2, Value.bool (false))] ∧ Sat w0 w K12 (L)) ∨ (e = .ret ∧ ∃ (K14 : Hp) (x15 : Unit), Hp.le K K14 ∧ o10 = Sum.inr x15 ∧ Slots 25 [] a [(2, Value.bool (true))] ∧ Sat w0 w K14 (L))) ?_ ?_
    · intro c Q hc hQ
      have key : ∀ (x9 : Int) (r' : Sum Unit Unit), Law_long_l1 p1 x9 = some r' → r' = o10 → ∀ (K8 : Hp) (a : Act) (w : World), Hp.le K K8 → Slots 25 [] a [(10, Value.int .i64 (x9)), (9, Value.int .i64 ((p1.length : Int))), (8, v2), (2, Value.bool (false))] → Sat w0 w K8 (L) → Rnd Tryd.prog c Q a w := by
        refine Law_long_l1.partial_correctness p1 _ ?_
        intro Law_long_l1_rec ih x9 r' h hr K8  a w hlK8 hS hM 
        subst hc
        refine c_round ?_
        refine wp_seq ?_
        refine wp_region_lit ?_
        refine st_val hS rfl rfl (by decide) (r_cmp rfl (hS.ev_ rfl) (hS.ev_ rfl) rfl) fun a hS => ?_
        refine st_done ?_
        replace hS : Slots 25 [] a [(11, Value.bool (decide (x9 < ((p1.length : Int))))), (10, Value.int .i64 (x9)), (9, Value.int .i64 ((p1.length : Int))), (8, v2), (2, Value.bool (false))] := (hS.part (.cons rfl (.cons rfl (.cons rfl (.cons rfl (.cons rfl (.nil _)))))))
        refine x_then ?_
        refine wp_seq ?_
        rcases ifB h with ⟨hc16, h⟩ | ⟨hc16, h⟩
        · refine c_cond_true (hS.ev_ rfl) hc16 ?_
          refine wp_skip ?_
          refine x_then ?_
          refine wp_seq ?_
          refine wp_block ?_
          refine wp_seq ?_
          refine wp_region_lit ?_
          obtain ⟨e17, h18, h⟩ := bindO h
          obtain ⟨ad19, cp20, cs21, hv22, hr23, h0_24, h1_25, hq26⟩ := sl_at f3 h18 (by decide)
          obtain rfl := kW_Piece_open hr23
          refine st_val hS rfl rfl (by decide) (r_idx_sl rfl un_22 ti_46 (hS.ev_ rfl) hv22 (hS.ev_ rfl) h0_24 h1_25) fun a hS => ?_
          refine st_val hS rfl rfl (by decide) (r_ldN_k (cs' := [strV (e17.f_Var), strV (e17.f_Lit)]) rfl ag_46 ti_46 (hS.ev_ rfl) hq26 rfl (Rd.up hlK8 hM.nil_)) fun a hS => ?_
          refine wl_cons rfl (e_alloc (cs := [strV (([] : List UInt8)), strV (([] : List UInt8))]) hM rfl ti_46 rfl fun g27 w hM => ?_)
          refine pl hS rfl (by decide) fun a hS => ?_
          refine wl_cons rfl (e_storeN (vs := [strV (e17.f_Var), strV (e17.f_Lit)]) hM rfl ti_46 (hS.ev_ rfl) (hS.ev_ rfl) (ones_cons rfl (ones_cons rfl ones_nil)) (Nat.le_of_ble_eq_true rfl) fun w hM => ?_)
          have hM : Sat w0 w K8 (SP.blk g27 46 [strV (e17.f_Var), strV (e17.f_Lit)] :: L) := hM
          refine pl0 hS rfl fun a hS => ?_
          refine st_done ?_
          replace hS : Slots 25 [] a [(4, Value.pointer (some ⟨g27, 0, none⟩)), (10, Value.int .i64 (x9)), (9, Value.int .i64 ((p1.length : Int))), (8, v2), (2, Value.bool (false))] := (hS.part (.cons rfl (.cons rfl (.cons rfl (.cons rfl (.cons rfl (.nil _)))))))
          refine x_then ?_
          refine wp_seq ?_
          refine wp_region_lit ?_
          refine st_val hS rfl rfl (by decide) (r_fld_b rfl fo_46_0 (hS.ev_ rfl)) fun a hS => ?_
          refine st_val hS rfl rfl (by decide) (r_ld1_b rfl ag_9 (hS.ev_ rfl) rfl (Rd.of hM)) fun a hS => ?_
          refine st_val hS rfl rfl (by decide) (r_len_str rfl un_9 (hS.ev_ rfl)) fun a hS => ?_
          refine st_val hS rfl rfl (by decide) (r_cmp rfl (hS.ev_ rfl) (hS.ev_ rfl) rfl) fun a hS => ?_
          refine st_val hS rfl rfl (by decide) (r_move rfl (hS.ev_ rfl)) fun a hS => ?_
          obtain ⟨x29, h30, h⟩ := bindO h
          refine wl_cut 5 (fun a w => Slots 25 [] a [(2, Value.bool (false)), (8, v2), (9, Value.int .i64 ((p1.length : Int))), (10, Value.int .i64 (x9)), (23, Value.bool (x29))] ∧ Sat w0 w K8 (SP.blk g27 46 [strV (e17.f_Var), strV (e17.f_Lit)] :: L)) ?_ ?_
          ·
            skip
            rcases ifB h30 with ⟨hc31, h30⟩ | ⟨hc31, h30⟩
            ·
              replace hS := hS.known (k := 18) rfl hc31
              refine st_off hS rfl rfl rfl rfl rfl rfl (by decide) fun a hS => ?_
              refine st_off hS rfl rfl rfl rfl rfl rfl (by decide) fun a hS => ?_
              refine st_off hS rfl rfl rfl rfl rfl rfl (by decide) fun a hS => ?_
              refine st_off hS rfl rfl rfl rfl rfl rfl (by decide) fun a hS => ?_
              refine st_val hS rfl rfl (by decide) (r_pick_true rfl (hS.ev_ rfl) rfl (hS.ev_ rfl)) fun a hS => ?_
              refine st_done ?_
              replace hS : Slots 25 [] a [(23, Value.bool (true)), (10, Value.int .i64 (x9)), (9, Value.int .i64 ((p1.length : Int))), (8, v2), (2, Value.bool (false))] := (hS.part (.cons rfl (.cons rfl (.cons rfl (.cons rfl (.cons rfl (.nil _)))))))
              refine x_then ?_
              obtain rfl := Option.some.inj h30
              exact ⟨(hS.part (.cons rfl (.cons rfl (.cons rfl (.cons rfl (.cons rfl (.nil _))))))), hM⟩
            ·
              replace hS := hS.known (k := 18) rfl hc31
              refine st_want hS rfl rfl rfl rfl rfl (by decide) (r_fld_b rfl fo_46_1 (hS.ev_ rfl)) fun a hS => ?_
              refine st_want hS rfl rfl rfl rfl rfl (by decide) (r_ld1_b rfl ag_9 (hS.ev_ rfl) rfl (Rd.of hM)) fun a hS => ?_
              refine st_want hS rfl rfl rfl rfl rfl (by decide) (r_len_str rfl un_9 (hS.ev_ rfl)) fun a hS => ?_
              refine st_want hS rfl rfl rfl rfl rfl (by decide) (r_cmp rfl (hS.ev_ rfl) (hS.ev_ rfl) rfl) fun a hS => ?_
              refine st_val hS rfl rfl (by decide) (r_pick_false rfl (hS.ev_ rfl) rfl (hS.ev_ rfl)) fun a hS => ?_
              refine st_done ?_
              replace hS : Slots 25 [] a [(23, Value.bool (decide (((e17.f_Lit.length : Int)) > 500))), (10, Value.int .i64 (x9)), (9, Value.int .i64 ((p1.length : Int))), (8, v2), (2, Value.bool (false))] := (hS.part (.cons rfl (.cons rfl (.cons rfl (.cons rfl (.cons rfl (.nil _)))))))
              refine x_then ?_
              obtain rfl := Option.some.inj h30
              exact ⟨(hS.part (.cons rfl (.cons rfl (.cons rfl (.cons rfl (.cons rfl (.nil _))))))), hM⟩
          · rintro a w ⟨hS, hM⟩
            refine st_done ?_
            replace hS : Slots 25 [] a [(2, Value.bool (false)), (8, v2), (9, Value.int .i64 ((p1.length : Int))), (10, Value.int .i64 (x9)), (23, Value.bool (x29))] := (hS.part (.cons rfl (.cons rfl (.cons rfl (.cons rfl (.cons rfl (.nil _)))))))
            refine x_then ?_
            rcases ifB h with ⟨hc32, h⟩ | ⟨hc32, h⟩
            · refine c_cond_true (hS.ev_ rfl) hc32 ?_
              refine wp_seq ?_
              refine wp_region_lit ?_
              refine st_val hS rfl rfl (by decide) (r_assign rfl (hS.ev_ rfl)) fun a hS => ?_
              refine st_done ?_
              replace hS : Slots 25 [] a [(2, Value.bool (true)), (8, v2), (9, Value.int .i64 ((p1.length : Int))), (10, Value.int .i64 (x9))] := (hS.part (.cons rfl (.cons rfl (.cons rfl (.cons rfl (.nil _))))))
              refine x_then ?_
              refine wp_ret ?_
              refine x_block_ret ?_
              refine x_then_ret ?_
              refine x_then_ret ?_
              have ho' := (Option.some.inj h).trans hr
              refine hQ _ _ _ ?_
              exact .inr (⟨rfl, K8, (()), hlK8, ho'.symm, (hS.part (.cons rfl (.nil _))), (hM).tail⟩)
            · refine c_cond_false (hS.ev_ rfl) hc32 ?_
              refine wp_skip ?_
              refine x_block ?_
              refine x_then ?_
              refine wp_region_lit ?_
              refine st_val hS rfl rfl (by decide) (r_add rfl (hS.ev_ rfl) (hS.ev_ rfl)) fun a hS => ?_
              refine st_val hS rfl rfl (by decide) (r_move rfl (hS.ev_ rfl)) fun a hS => ?_
              refine st_done ?_
              replace hS : Slots 25 [] a [(10, Value.int .i64 (w64 (x9 + 1))), (2, Value.bool (false)), (8, v2), (9, Value.int .i64 ((p1.length : Int)))] := (hS.part (.cons rfl (.cons rfl (.cons rfl (.cons rfl (.nil _))))))
              refine x_then ?_
              exact ih (w64 (x9 + 1)) _ h hr K8 _ _ hlK8 (hS.part (.cons rfl (.cons rfl (.cons rfl (.cons rfl (.nil _)))))) ((hM).tail)
        · refine c_cond_false (hS.ev_ rfl) hc16 ?_
          refine wp_exit ?_
          refine x_then_exit ?_
          refine x_then_exit ?_
          have ho' := (Option.some.inj h).trans hr
          refine hQ _ _ _ ?_
          exact .inl ⟨rfl, K8, (()), hlK8, ho'.symm, (hS.part (.cons rfl (.nil _))), hM⟩
      exact key 0 _ h11 rfl K _ _ (Hp.le.refl _) (hS.part (.cons rfl (.cons rfl (.cons rfl (.cons rfl (.nil _)))))) (hM)
    · rintro e a w (⟨rfl, K12, x13, hlK12, ho', hS, hM⟩ | ⟨rfl, K14, x15, hlK14, ho', hS, hM⟩)
      · subst ho'
        dsimp only at h
        refine x_block_here ?_
        refine x_then ?_
        refine wp_seq ?_
        refine wp_region_lit ?_
        refine st_val hS rfl rfl (by decide) (r_assign rfl (hS.ev_ rfl)) fun a hS => ?_
        refine st_done ?_
        replace hS : Slots 25 [] a [(2, Value.bool (false))] := (hS.part (.cons rfl (.nil _)))
        refine x_then ?_
        refine wp_ret ?_
        have hr' := Option.some.inj h
        subst hr'
        refine ret1 (.inr rfl) hS rfl rfl ?_
        exact ⟨K12, hlK12, hM, rfl⟩
      · subst ho'
        dsimp only at h
        refine x_block_ret ?_
        refine x_then_ret ?_
        have hr' := Option.some.inj h
        subst hr'
        refine ret1 (.inr rfl) hS rfl rfl ?_
        exact ⟨K14, hlK14, hM, rfl⟩

theorem Law_Pieces_c {w0 w : World} {K : Hp} {L : List SP} {p1 : List W_Piece} {v2 : Value} {r : List R_Piece} (hG : Glob w0) (h : Law_Pieces p1 = some r) (f3 : kW_Piece.sl K v2 p1) (hM : Sat w0 w K (L)) :
    Calls Tryd.prog 7 #[v2] w (fun e w' => ∃ (K' : Hp) (v'1 : Value), Hp.le K K' ∧ Sat w0 w' K' (L) ∧ e = .returned (v'1) ∧ kR_Piece.sl K' v'1 r) := by
  refine enter_ (n := 19) (args := [v2]) Tryd.func7 rfl rfl (Nat.le_of_ble_eq_true rfl) fun a hS => ?_
  replace hS : Slots 19 [] a [(0, v2)] := hS
  unfold Law_Pieces at h
  refine wp_seq ?_
  refine wp_region_lit ?_
  refine st_val hS rfl rfl (by decide) (r_assign rfl (hS.ev_ rfl)) fun a hS => ?_
  refine st_done ?_
  replace hS : Slots 19 [] a [(2, Value.slice none 0 0), (0, v2)] := (hS.part (.cons rfl (.cons rfl (.nil _))))
  refine x_then ?_
  refine wp_seq ?_
  refine wp_region_lit ?_
  refine wl_cons rfl (e_lit0 (d := kR_Piece) hM rfl un_27 ti_47 rfl fun v4 w hM => ?_)
  refine pl hS rfl (by decide) fun a hS => ?_
  refine st_val hS rfl rfl (by decide) (r_assign rfl (hS.ev_ rfl)) fun a hS => ?_
  refine st_done ?_
  replace hS : Slots 19 [] a [(3, v4), (2, Value.slice none 0 0), (0, v2)] := (hS.part (.cons rfl (.cons rfl (.cons rfl (.nil _)))))
  refine x_then ?_
  refine wp_seq ?_
  refine wp_seq ?_
  refine wp_region_lit ?_
  refine st_val hS rfl rfl (by decide) (r_move rfl (hS.ev_ rfl)) fun a hS => ?_
  refine st_val hS rfl rfl (by decide) (r_len_sl rfl un_22 (hS.ev_ rfl) f3) fun a hS => ?_
  refine st_val hS rfl rfl (by decide) (r_move rfl (hS.ev_ rfl)) fun a hS => ?_
  refine st_done ?_
  replace hS : Slots 19 [] a [(9, Value.int .i64 (0)), (8, Value.int .i64 ((p1.length : Int))), (7, v2), (3, v4), (2, Value.slice none 0 0)] := (hS.part (.cons rfl (.cons rfl (.cons rfl (.cons rfl (.cons rfl (.nil _)))))))
  refine x_then ?_
  refine wp_block ?_
  obtain ⟨o15, h16, h⟩ := bindO h
  refine c_loop_ways (fun e a w => (e = .exit 0 ∧ ∃ (K17 : Hp) (v18 : Value), Hp.le K K17 ∧ Slots 19 [] a [(2, Value.slice none 0 0), (3, v18)] ∧ Sat w0 w K17 (SP.row kR_Piece 47 v18 o15 :: L))) ?_ ?_
  · intro c Q hc hQ
    have key : ∀ (x12 : Int) (x13 : List R_Piece) (r' : List R_Piece), Law_Pieces_l1 p1 x12 x13 = some r' → r' = o15 → ∀ (K11 : Hp) (v14 : Value) (a : Act) (w : World), Hp.le K K11 → Slots 19 [] a [(9, Value.int .i64 (x12)), (8, Value.int .i64 ((p1.length : Int))), (7, v2), (2, Value.slice none 0 0), (3, v14)] → Sat w0 w K11 (SP.row kR_Piece 47 v14 x13 :: L) → Rnd Tryd.prog c Q a w := by
      refine Law_Pieces_l1.partial_correctness p1 _ ?_
      intro Law_Pieces_l1_rec ih x12 x13 r' h hr K11 v14 a w hlK11 hS hM 
      subst hc
      refine c_round ?_
      refine wp_seq ?_
      refine wp_region_lit ?_
      refine st_val hS rfl rfl (by decide) (r_cmp rfl (hS.ev_ rfl) (hS.ev_ rfl) rfl) fun a hS => ?_
      refine st_done ?_
      replace hS : Slots 19 [] a [(10, Value.bool (decide (x12 < ((p1.length : Int))))), (9, Value.int .i64 (x12)), (8, Value.int .i64 ((p1.length : Int))), (7, v2), (2, Value.slice none 0 0), (3, v14)] := (hS.part (.cons rfl (.cons rfl (.cons rfl (.cons rfl (.cons rfl (.cons rfl (.nil _))))))))
      refine x_then ?_
      refine wp_seq ?_
      rcases ifB h with ⟨hc19, h⟩ | ⟨hc19, h⟩
      · refine c_cond_true (hS.ev_ rfl) hc19 ?_
        refine wp_skip ?_
        refine x_then ?_
        refine wp_seq ?_
        refine wp_block ?_
        refine wp_seq ?_
        refine wp_region_lit ?_
        obtain ⟨e20, h21, h⟩ := bindO h
        obtain ⟨ad22, cp23, cs24, hv25, hr26, h0_27, h1_28, hq29⟩ := sl_at f3 h21 (by decide)
        obtain rfl := kW_Piece_open hr26
        refine st_val hS rfl rfl (by decide) (r_idx_sl rfl un_22 ti_46 (hS.ev_ rfl) hv25 (hS.ev_ rfl) h0_27 h1_28) fun a hS => ?_
        refine st_val hS rfl rfl (by decide) (r_ldN_k (cs' := [strV (e20.f_Var), strV (e20.f_Lit)]) rfl ag_46 ti_46 (hS.ev_ rfl) hq29 rfl (Rd.up hlK11 hM.nil_)) fun a hS => ?_
        refine wl_cons rfl (e_alloc (cs := [strV (([] : List UInt8)), strV (([] : List UInt8))]) hM rfl ti_46 rfl fun g30 w hM => ?_)
        refine pl hS rfl (by decide) fun a hS => ?_
        refine wl_cons rfl (e_storeN (vs := [strV (e20.f_Var), strV (e20.f_Lit)]) hM rfl ti_46 (hS.ev_ rfl) (hS.ev_ rfl) (ones_cons rfl (ones_cons rfl ones_nil)) (Nat.le_of_ble_eq_true rfl) fun w hM => ?_)
        have hM : Sat w0 w K11 (SP.blk g30 46 [strV (e20.f_Var), strV (e20.f_Lit)] :: SP.row kR_Piece 47 v14 x13 :: L) := hM
        refine pl0 hS rfl fun a hS => ?_
        refine st_done ?_
        replace hS : Slots 19 [] a [(5, Value.pointer (some ⟨g30, 0, none⟩)), (9, Value.int .i64 (x12)), (8, Value.int .i64 ((p1.length : Int))), (7, v2), (2, Value.slice none 0 0), (3, v14)] := (hS.part (.cons rfl (.cons rfl (.cons rfl (.cons rfl (.cons rfl (.cons rfl (.nil _))))))))
        refine x_then ?_
        refine wp_region_lit ?_
        refine st_val hS rfl rfl (by decide) (r_move rfl (hS.ev_ rfl)) fun a hS => ?_
        refine st_val hS rfl rfl (by decide) (r_ldN_b (cs' := [strV (e20.f_Var), strV (e20.f_Lit)]) rfl ag_46 ti_46 (hS.ev_ rfl) rfl (Rd.of hM)) fun a hS => ?_
        refine wl_cons rfl (e_litK (d := kR_Piece) (e := 47) (cs := [strV (e20.f_Var), strV (e20.f_Lit)]) (xs := [(⟨e20.f_Var, e20.f_Lit⟩ : R_Piece)]) hM rfl (parts_ev hS rfl) (by kernel_rfl) ⟨[strV (e20.f_Var), strV (e20.f_Lit)], [], rfl, (kR_Piece_shut), rfl⟩ rfl (by decide) fun v32 K33 w hlK33 hM f34 => ?_)
        refine pl hS rfl (by decide) fun a hS => ?_
        replace hM := hM.pull 1 rfl rfl
        obtain ⟨h35, h⟩ := bindU h
        refine wl_cons rfl (e_apd_sl hM rfl un_27 un_27 ti_47 rfl rfl (by decide) (hS.ev_ rfl) (hS.ev_ rfl) f34 (req_some h35) fun v36 w hM => ?_)
        refine pl hS rfl (by decide) fun a hS => ?_
        refine st_val hS rfl rfl (by decide) (r_assign rfl (hS.ev_ rfl)) fun a hS => ?_
        refine st_done ?_
        replace hS : Slots 19 [] a [(3, v36), (9, Value.int .i64 (x12)), (8, Value.int .i64 ((p1.length : Int))), (7, v2), (2, Value.slice none 0 0)] := (hS.part (.cons rfl (.cons rfl (.cons rfl (.cons rfl (.cons rfl (.nil _)))))))
        refine x_block ?_
        refine x_then ?_
        refine wp_region_lit ?_
        refine st_val hS rfl rfl (by decide) (r_add rfl (hS.ev_ rfl) (hS.ev_ rfl)) fun a hS => ?_
        refine st_val hS rfl rfl (by decide) (r_move rfl (hS.ev_ rfl)) fun a hS => ?_
        refine st_done ?_
        replace hS : Slots 19 [] a [(9, Value.int .i64 (w64 (x12 + 1))), (3, v36), (8, Value.int .i64 ((p1.length : Int))), (7, v2), (2, Value.slice none 0 0)] := (hS.part (.cons rfl (.cons rfl (.cons rfl (.cons rfl (.cons rfl (.nil _)))))))
        refine x_then ?_
        exact ih (w64 (x12 + 1)) (x13 ++ [(⟨e20.f_Var, e20.f_Lit⟩ : R_Piece)]) _ h hr K33 (v36) _ _ (hlK11.trans hlK33) (hS.part (.cons rfl (.cons rfl (.cons rfl (.cons rfl (.cons rfl (.nil _))))))) ((hM.pull 1 rfl rfl).tail)
      · refine c_cond_false (hS.ev_ rfl) hc19 ?_
        refine wp_exit ?_
        refine x_then_exit ?_
        refine x_then_exit ?_
        have ho' := (Option.some.inj h).trans hr
        refine hQ _ _ _ ?_
        subst ho'
        exact ⟨rfl, K11, (v14), hlK11, (hS.part (.cons rfl (.cons rfl (.nil _)))), hM⟩
    exact key 0 (([] : List R_Piece)) _ h16 rfl K (v4) _ _ (Hp.le.refl _) (hS.part (.cons rfl (.cons rfl (.cons rfl (.cons rfl (.cons rfl (.nil _))))))) (hM)
  · rintro e a w ⟨rfl, K17, v18, hlK17, hS, hM⟩
    refine x_block_here ?_
    refine x_then ?_
    refine wp_seq ?_
    refine wp_region_lit ?_
    refine st_val hS rfl rfl (by decide) (r_move rfl (hS.ev_ rfl)) fun a hS => ?_
    refine st_val hS rfl rfl (by decide) (r_assign rfl (hS.ev_ rfl)) fun a hS => ?_
    refine st_done ?_
    replace hS : Slots 19 [] a [(2, v18)] := (hS.part (.cons rfl (.nil _)))
    refine x_then ?_
    refine wp_ret ?_
    obtain ⟨K37, hlK37, hM, f38⟩ := keep_row hM
    have hr' := Option.some.inj h
    subst hr'
    refine ret1 (.inr rfl) hS rfl rfl ?_
    exact ⟨K37, (v18), (hlK17.trans hlK37), hM, rfl, f38⟩

theorem R_Figure_c {w0 w : World} {K : Hp} {L : List SP} {p1 : UInt8} {r : Bool} (hG : Glob w0) (h : R_Figure p1 = some r) (hM : Sat w0 w K (L)) :
    Calls Tryd.prog 18 #[Value.int .u8 (b8 (p1))] w (fun e w' => ∃ (K' : Hp), Hp.le K K' ∧ Sat w0 w' K' (L) ∧ e = .returned (Value.bool (r))) := by
  refine enter_ (n := 9) (args := [Value.int .u8 (b8 (p1))]) Tryd.func18 rfl rfl (Nat.le_of_ble_eq_true rfl) fun a hS => ?_
  replace hS : Slots 9 [] a [(0, Value.int .u8 (b8 (p1)))] := hS
  unfold R_Figure at h
  refine wp_seq ?_
  refine wp_region_lit ?_
  refine st_val hS rfl rfl (by decide) (r_assign rfl (hS.ev_ rfl)) fun a hS => ?_
  refine st_done ?_
  replace hS : Slots 9 [] a [(2, Value.bool (false)), (0, Value.int .u8 (b8 (p1)))] := (hS.part (.cons rfl (.cons rfl (.nil _))))
  refine x_then ?_
  refine wp_seq ?_
  refine wp_region_lit ?_
  refine st_val hS rfl rfl (by decide) (r_move rfl (hS.ev_ rfl)) fun a hS => ?_
  refine st_val hS rfl rfl (by decide) (r_cmp8 rfl (hS.ev_ rfl) (hS.ev_ (v := Value.int .u8 (b8 (48))) rfl) rfl) fun a hS => ?_
  refine st_val hS rfl rfl (by decide) (r_move rfl (hS.ev_ rfl)) fun a hS => ?_
  obtain ⟨x2, h3, h⟩ := bindO h
  refine wl_cut 3 (fun a w => Slots 9 [] a [(2, Value.bool (false)), (8, Value.bool (x2))] ∧ Sat w0 w K (L)) ?_ ?_
  ·
    skip
    rcases ifB h3 with ⟨hc4, h3⟩ | ⟨hc4, h3⟩
    ·
      replace hS := hS.known (k := 5) rfl hc4
      refine st_want hS rfl rfl rfl rfl rfl (by decide) (r_move rfl (hS.ev_ rfl)) fun a hS => ?_
      refine st_want hS rfl rfl rfl rfl rfl (by decide) (r_cmp8 rfl (hS.ev_ rfl) (hS.ev_ (v := Value.int .u8 (b8 (57))) rfl) rfl) fun a hS => ?_
      refine st_val hS rfl rfl (by decide) (r_pick_true rfl (hS.ev_ rfl) rfl (hS.ev_ rfl)) fun a hS => ?_
      refine st_done ?_
      replace hS : Slots 9 [] a [(8, Value.bool (decide (p1 ≤ 57))), (2, Value.bool (false))] := (hS.part (.cons rfl (.cons rfl (.nil _))))
      refine x_then ?_
      obtain rfl := Option.some.inj h3
      exact ⟨(hS.part (.cons rfl (.cons rfl (.nil _)))), hM⟩
    ·
      replace hS := hS.known (k := 5) rfl hc4
      refine st_off hS rfl rfl rfl rfl rfl rfl (by decide) fun a hS => ?_
      refine st_off hS rfl rfl rfl rfl rfl rfl (by decide) fun a hS => ?_
      refine st_val hS rfl rfl (by decide) (r_pick_false rfl (hS.ev_ rfl) rfl (hS.ev_ rfl)) fun a hS => ?_
      refine st_done ?_
      replace hS : Slots 9 [] a [(8, Value.bool (false)), (2, Value.bool (false))] := (hS.part (.cons rfl (.cons rfl (.nil _))))
      refine x_then ?_
      obtain rfl := Option.some.inj h3
      exact ⟨(hS.part (.cons rfl (.cons rfl (.nil _)))), hM⟩
  · rintro a w ⟨hS, hM⟩
    refine st_val hS rfl rfl (by decide) (r_assign rfl (hS.ev_ rfl)) fun a hS => ?_
    refine st_done ?_
    replace hS : Slots 9 [] a [(2, Value.bool (x2))] := (hS.part (.cons rfl (.nil _)))
    refine x_then ?_
    refine wp_ret ?_
    have hr' := Option.some.inj h
    subst hr'
    refine ret1 (.inr rfl) hS rfl rfl ?_
    exact ⟨K, (Hp.le.refl _), hM, rfl⟩

theorem R_Letter_c {w0 w : World} {K : Hp} {L : List SP} {p1 : UInt8} {r : Bool} (hG : Glob w0) (h : R_Letter p1 = some r) (hM : Sat w0 w K (L)) :
    Calls Tryd.prog 17 #[Value.int .u8 (b8 (p1))] w (fun e w' => ∃ (K' : Hp), Hp.le K K' ∧ Sat w0 w' K' (L) ∧ e = .returned (Value.bool (r))) := by
  refine enter_ (n := 21) (args := [Value.int .u8 (b8 (p1))]) Tryd.func17 rfl rfl (Nat.le_of_ble_eq_true rfl) fun a hS => ?_
  replace hS : Slots 21 [] a [(0, Value.int .u8 (b8 (p1)))] := hS
  unfold R_Letter at h
  refine wp_seq ?_
  refine wp_region_lit ?_
  refine st_val hS rfl rfl (by decide) (r_assign rfl (hS.ev_ rfl)) fun a hS => ?_
  refine st_done ?_
  replace hS : Slots 21 [] a [(2, Value.bool (false)), (0, Value.int .u8 (b8 (p1)))] := (hS.part (.cons rfl (.cons rfl (.nil _))))
  refine x_then ?_
  refine wp_seq ?_
  refine wp_region_lit ?_
  refine st_val hS rfl rfl (by decide) (r_move rfl (hS.ev_ rfl)) fun a hS => ?_
  refine st_val hS rfl rfl (by decide) (r_cmp8 rfl (hS.ev_ rfl) (hS.ev_ (v := Value.int .u8 (b8 (97))) rfl) rfl) fun a hS => ?_
  refine st_val hS rfl rfl (by decide) (r_move rfl (hS.ev_ rfl)) fun a hS => ?_
  obtain ⟨x2, h3, h⟩ := bindO h
  refine wl_cut 3 (fun a w => Slots 21 [] a [(0, Value.int .u8 (b8 (p1))), (2, Value.bool (false)), (8, Value.bool (x2))] ∧ Sat w0 w K (L)) ?_ ?_
  ·
    skip
    rcases ifB h3 with ⟨hc4, h3⟩ | ⟨hc4, h3⟩
    ·
      replace hS := hS.known (k := 5) rfl hc4
      refine st_want hS rfl rfl rfl rfl rfl (by decide) (r_move rfl (hS.ev_ rfl)) fun a hS => ?_
      refine st_want hS rfl rfl rfl rfl rfl (by decide) (r_cmp8 rfl (hS.ev_ rfl) (hS.ev_ (v := Value.int .u8 (b8 (122))) rfl) rfl) fun a hS => ?_
      refine st_val hS rfl rfl (by decide) (r_pick_true rfl (hS.ev_ rfl) rfl (hS.ev_ rfl)) fun a hS => ?_
      refine st_done ?_
      replace hS : Slots 21 [] a [(8, Value.bool (decide (p1 ≤ 122))), (2, Value.bool (false)), (0, Value.int .u8 (b8 (p1)))] := (hS.part (.cons rfl (.cons rfl (.cons rfl (.nil _)))))
      refine x_then ?_
      obtain rfl := Option.some.inj h3
      exact ⟨(hS.part (.cons rfl (.cons rfl (.cons rfl (.nil _))))), hM⟩
    ·
      replace hS := hS.known (k := 5) rfl hc4
      refine st_off hS rfl rfl rfl rfl rfl rfl (by decide) fun a hS => ?_
      refine st_off hS rfl rfl rfl rfl rfl rfl (by decide) fun a hS => ?_
      refine st_val hS rfl rfl (by decide) (r_pick_false rfl (hS.ev_ rfl) rfl (hS.ev_ rfl)) fun a hS => ?_
      refine st_done ?_
      replace hS : Slots 21 [] a [(8, Value.bool (false)), (2, Value.bool (false)), (0, Value.int .u8 (b8 (p1)))] := (hS.part (.cons rfl (.cons rfl (.cons rfl (.nil _)))))
      refine x_then ?_
      obtain rfl := Option.some.inj h3
      exact ⟨(hS.part (.cons rfl (.cons rfl (.cons rfl (.nil _))))), hM⟩
  · rintro a w ⟨hS, hM⟩
    refine st_val hS rfl rfl (by decide) (r_move rfl (hS.ev_ rfl)) fun a hS => ?_
    obtain ⟨x5, h6, h⟩ := bindO h
    refine wl_cut 7 (fun a w => Slots 21 [] a [(0, Value.int .u8 (b8 (p1))), (2, Value.bool (false)), (16, Value.bool (x5))] ∧ Sat w0 w K (L)) ?_ ?_
    ·
      skip
      rcases ifB h6 with ⟨hc7, h6⟩ | ⟨hc7, h6⟩
      ·
        replace hS := hS.known (k := 9) rfl hc7
        refine st_off hS rfl rfl rfl rfl rfl rfl (by decide) fun a hS => ?_
        refine st_off hS rfl rfl rfl rfl rfl rfl (by decide) fun a hS => ?_
        refine st_off hS rfl rfl rfl rfl rfl rfl (by decide) fun a hS => ?_
        refine st_off_undef hS rfl rfl rfl rfl rfl (by decide) fun a hS => ?_
        refine st_off_undef hS rfl rfl rfl rfl rfl (by decide) fun a hS => ?_
        refine st_off hS rfl rfl rfl rfl rfl rfl (by decide) fun a hS => ?_
        refine st_val hS rfl rfl (by decide) (r_pick_true rfl (hS.ev_ rfl) rfl (hS.ev_ rfl)) fun a hS => ?_
        refine st_done ?_
        replace hS : Slots 21 [] a [(16, Value.bool (true)), (0, Value.int .u8 (b8 (p1))), (2, Value.bool (false))] := (hS.part (.cons rfl (.cons rfl (.cons rfl (.nil _)))))
        refine x_then ?_
        obtain rfl := Option.some.inj h6
        exact ⟨(hS.part (.cons rfl (.cons rfl (.cons rfl (.nil _))))), hM⟩
      ·
        replace hS := hS.known (k := 9) rfl hc7
        refine st_want hS rfl rfl rfl rfl rfl (by decide) (r_move rfl (hS.ev_ rfl)) fun a hS => ?_
        refine st_want hS rfl rfl rfl rfl rfl (by decide) (r_cmp8 rfl (hS.ev_ rfl) (hS.ev_ (v := Value.int .u8 (b8 (65))) rfl) rfl) fun a hS => ?_
        refine st_want hS rfl rfl rfl rfl rfl (by decide) (r_move rfl (hS.ev_ rfl)) fun a hS => ?_
        obtain ⟨x8, h9, h6⟩ := bindO h6
        refine wl_cut 3 (fun a w => Slots 21 [] a [(0, Value.int .u8 (b8 (p1))), (2, Value.bool (false)), (9, Value.bool (false)), (15, Value.bool (x8))] ∧ Sat w0 w K (L)) ?_ ?_
        ·
          skip
          rcases ifB h9 with ⟨hc10, h9⟩ | ⟨hc10, h9⟩
          ·
            replace hS := hS.known (k := 12) rfl hc10
            refine st_want hS rfl rfl rfl rfl rfl (by decide) (r_move rfl (hS.ev_ rfl)) fun a hS => ?_
            refine st_want hS rfl rfl rfl rfl rfl (by decide) (r_cmp8 rfl (hS.ev_ rfl) (hS.ev_ (v := Value.int .u8 (b8 (90))) rfl) rfl) fun a hS => ?_
            refine st_want hS rfl rfl rfl rfl rfl (by decide) (r_pick_true rfl (hS.ev_ rfl) rfl (hS.ev_ rfl)) fun a hS => ?_
            refine st_done ?_
            replace hS : Slots 21 [] a [(15, Value.bool (decide (p1 ≤ 90))), (9, Value.bool (false)), (0, Value.int .u8 (b8 (p1))), (2, Value.bool (false))] := (hS.part (.cons rfl (.cons rfl (.cons rfl (.cons rfl (.nil _))))))
            refine x_then ?_
            obtain rfl := Option.some.inj h9
            exact ⟨(hS.part (.cons rfl (.cons rfl (.cons rfl (.cons rfl (.nil _)))))), hM⟩
          ·
            replace hS := hS.known (k := 12) rfl hc10
            refine st_off hS rfl rfl rfl rfl rfl rfl (by decide) fun a hS => ?_
            refine st_off hS rfl rfl rfl rfl rfl rfl (by decide) fun a hS => ?_
            refine st_want hS rfl rfl rfl rfl rfl (by decide) (r_pick_false rfl (hS.ev_ rfl) rfl (hS.ev_ rfl)) fun a hS => ?_
            refine st_done ?_
            replace hS : Slots 21 [] a [(15, Value.bool (false)), (9, Value.bool (false)), (0, Value.int .u8 (b8 (p1))), (2, Value.bool (false))] := (hS.part (.cons rfl (.cons rfl (.cons rfl (.cons rfl (.nil _))))))
            refine x_then ?_
            obtain rfl := Option.some.inj h9
            exact ⟨(hS.part (.cons rfl (.cons rfl (.cons rfl (.cons rfl (.nil _)))))), hM⟩
        · rintro a w ⟨hS, hM⟩
          refine st_val hS rfl rfl (by decide) (r_pick_false rfl (hS.ev_ rfl) rfl (hS.ev_ rfl)) fun a hS => ?_
          refine st_done ?_
          replace hS : Slots 21 [] a [(16, Value.bool (x8)), (0, Value.int .u8 (b8 (p1))), (2, Value.bool (false))] := (hS.part (.cons rfl (.cons rfl (.cons rfl (.nil _)))))
          refine x_then ?_
          obtain rfl := Option.some.inj h6
          exact ⟨(hS.part (.cons rfl (.cons rfl (.cons rfl (.nil _))))), hM⟩
    · rintro a w ⟨hS, hM⟩
      refine st_val hS rfl rfl (by decide) (r_move rfl (hS.ev_ rfl)) fun a hS => ?_
      obtain ⟨x11, h12, h⟩ := bindO h
      refine wl_cut 3 (fun a w => Slots 21 [] a [(2, Value.bool (false)), (20, Value.bool (x11))] ∧ Sat w0 w K (L)) ?_ ?_
      ·
        skip
        rcases ifB h12 with ⟨hc13, h12⟩ | ⟨hc13, h12⟩
        ·
          replace hS := hS.known (k := 17) rfl hc13
          refine st_off hS rfl rfl rfl rfl rfl rfl (by decide) fun a hS => ?_
          refine st_off hS rfl rfl rfl rfl rfl rfl (by decide) fun a hS => ?_
          refine st_val hS rfl rfl (by decide) (r_pick_true rfl (hS.ev_ rfl) rfl (hS.ev_ rfl)) fun a hS => ?_
          refine st_done ?_
          replace hS : Slots 21 [] a [(20, Value.bool (true)), (2, Value.bool (false))] := (hS.part (.cons rfl (.cons rfl (.nil _))))
          refine x_then ?_
          obtain rfl := Option.some.inj h12
          exact ⟨(hS.part (.cons rfl (.cons rfl (.nil _)))), hM⟩
        ·
          replace hS := hS.known (k := 17) rfl hc13
          refine st_want hS rfl rfl rfl rfl rfl (by decide) (r_move rfl (hS.ev_ rfl)) fun a hS => ?_
          refine st_want hS rfl rfl rfl rfl rfl (by decide) (r_cmp8 rfl (hS.ev_ rfl) (hS.ev_ (v := Value.int .u8 (b8 (95))) rfl) rfl) fun a hS => ?_
          refine st_val hS rfl rfl (by decide) (r_pick_false rfl (hS.ev_ rfl) rfl (hS.ev_ rfl)) fun a hS => ?_
          refine st_done ?_
          replace hS : Slots 21 [] a [(20, Value.bool (p1 == 95)), (2, Value.bool (false))] := (hS.part (.cons rfl (.cons rfl (.nil _))))
          refine x_then ?_
          obtain rfl := Option.some.inj h12
          exact ⟨(hS.part (.cons rfl (.cons rfl (.nil _)))), hM⟩
      · rintro a w ⟨hS, hM⟩
        refine st_val hS rfl rfl (by decide) (r_assign rfl (hS.ev_ rfl)) fun a hS => ?_
        refine st_done ?_
        replace hS : Slots 21 [] a [(2, Value.bool (x11))] := (hS.part (.cons rfl (.nil _)))
        refine x_then ?_
        refine wp_ret ?_
        have hr' := Option.some.inj h
        subst hr'
        refine ret1 (.inr rfl) hS rfl rfl ?_
        exact ⟨K, (Hp.le.refl _), hM, rfl⟩

theorem R_span_c {w0 w : World} {K : Hp} {L : List SP} {p1 : List UInt8} {p2 : Int} {p3 : Bool} {r : Int} (hG : Glob w0) (h : R_span p1 p2 p3 = some r) (hM : Sat w0 w K (L)) :
    Calls Tryd.prog 31 #[strV (p1), Value.int .i64 (p2), Value.bool (p3)] w (fun e w' => ∃ (K' : Hp), Hp.le K K' ∧ Sat w0 w' K' (L) ∧ e = .returned (Value.int .i64 (r))) := by
  refine enter_ (n := 36) (args := [strV (p1), Value.int .i64 (p2), Value.bool (p3)]) Tryd.func31 rfl rfl (Nat.le_of_ble_eq_true rfl) fun a hS => ?_
  replace hS : Slots 36 [] a [(0, strV (p1)), (1, Value.int .i64 (p2)), (2, Value.bool (p3))] := hS
  unfold R_span at h
  refine wp_seq ?_
  refine wp_region_lit ?_
  refine st_val hS rfl rfl (by decide) (r_assign rfl (hS.ev_ rfl)) fun a hS => ?_
  refine st_done ?_
  replace hS : Slots 36 [] a [(6, Value.int .i64 (0)), (0, strV (p1)), (1, Value.int .i64 (p2)), (2, Value.bool (p3))] := (hS.part (.cons rfl (.cons rfl (.cons rfl (.cons rfl (.nil _))))))
  refine x_then ?_
  refine wp_seq ?_
  refine wp_region_lit ?_
  refine st_val hS rfl rfl (by decide) (r_assign rfl (hS.ev_ rfl)) fun a hS => ?_
  refine st_done ?_
  replace hS : Slots 36 [] a [(7, Value.int .i64 (0)), (6, Value.int .i64 (0)), (0, strV (p1)), (1, Value.int .i64 (p2)), (2, Value.bool (p3))] := (hS.part (.cons rfl (.cons rfl (.cons rfl (.cons rfl (.cons rfl (.nil _)))))))
  refine x_then ?_
  refine wp_seq ?_
  refine wp_block ?_
  obtain ⟨o9, h10, h⟩ := bindO h
  refine c_loop_ways (fun e a w => (e = .exit 0 ∧ ∃ (K11 : Hp), Hp.le K K11 ∧ Slots 36 [] a [(6, Value.int .i64 (0)), (7, Value.int .i64 (o9))] ∧ Sat w0 w K11 (L))) ?_ ?_
  · intro c Q hc hQ
    have key : ∀ (x8 : Int) (r' : Int), R_span_l1 p2 p1 p3 x8 = some r' → r' = o9 → ∀ (K7 : Hp) (a : Act) (w : World), Hp.le K K7 → Slots 36 [] a [(7, Value.int .i64 (x8)), (6, Value.int .i64 (0)), (0, strV (p1)), (1, Value.int .i64 (p2)), (2, Value.bool (p3))] → Sat w0 w K7 (L) → Rnd Tryd.prog c Q a w := by
      refine R_span_l1.partial_correctness p2 p1 p3 _ ?_
      intro R_span_l1_rec ih x8 r' h hr K7  a w hlK7 hS hM 
      subst hc
      refine c_round ?_
      refine wp_seq ?_
      refine wp_seq ?_
      refine wp_region_lit ?_
      refine st_val hS rfl rfl (by decide) (r_move rfl (hS.ev_ rfl)) fun a hS => ?_
      refine st_val hS rfl rfl (by decide) (r_move rfl (hS.ev_ rfl)) fun a hS => ?_
      refine st_val hS rfl rfl (by decide) (r_add rfl (hS.ev_ rfl) (hS.ev_ rfl)) fun a hS => ?_
      refine st_val hS rfl rfl (by decide) (r_move rfl (hS.ev_ rfl)) fun a hS => ?_
      refine st_val hS rfl rfl (by decide) (r_len_str rfl un_9 (hS.ev_ rfl)) fun a hS => ?_
      refine st_val hS rfl rfl (by decide) (r_cmp rfl (hS.ev_ rfl) (hS.ev_ rfl) rfl) fun a hS => ?_
      refine st_val hS rfl rfl (by decide) (r_move rfl (hS.ev_ rfl)) fun a hS => ?_
      obtain ⟨x13, h14, h⟩ := bindO h
      refine wl_cut 18 (fun a w => ∃ (K12 : Hp), Hp.le K7 K12 ∧ Slots 36 [] a [(0, strV (p1)), (1, Value.int .i64 (p2)), (2, Value.bool (p3)), (6, Value.int .i64 (0)), (7, Value.int .i64 (x8)), (32, Value.bool (x13))] ∧ Sat w0 w K12 (L)) ?_ ?_
      ·
        skip
        rcases ifB h14 with ⟨hc15, h14⟩ | ⟨hc15, h14⟩
        ·
          replace hS := hS.known (k := 14) rfl hc15
          refine st_want hS rfl rfl rfl rfl rfl (by decide) (r_move rfl (hS.ev_ rfl)) fun a hS => ?_
          refine st_want hS rfl rfl rfl rfl rfl (by decide) (r_move rfl (hS.ev_ rfl)) fun a hS => ?_
          refine st_want hS rfl rfl rfl rfl rfl (by decide) (r_move rfl (hS.ev_ rfl)) fun a hS => ?_
          refine st_want hS rfl rfl rfl rfl rfl (by decide) (r_add rfl (hS.ev_ rfl) (hS.ev_ rfl)) fun a hS => ?_
          obtain ⟨c16, h17, h14⟩ := bindO h14
          refine st_want hS rfl rfl rfl rfl rfl (by decide) (r_index_s rfl un_9 (hS.ev_ rfl) (hS.ev_ rfl) h17) fun a hS => ?_
          obtain ⟨y18, h19, h14⟩ := bindO h14
          have hc21 := R_Figure_c hG h19 hM
          refine g_want hS rfl rfl rfl rfl (e_call rfl Tryd.func18 rfl rfl (args1 (hS.ev_ rfl)) hc21 ?_)
          rintro _ w ⟨K20, hlK20, hM, rfl⟩
          refine ⟨_, rfl, ?_⟩
          refine pl hS rfl (by decide) fun a hS => ?_
          refine st_want hS rfl rfl rfl rfl rfl (by decide) (r_move rfl (hS.ev_ rfl)) fun a hS => ?_
          obtain ⟨x23, h24, h14⟩ := bindO h14
          refine wl_cut 10 (fun a w => ∃ (K22 : Hp), Hp.le K20 K22 ∧ Slots 36 [] a [(0, strV (p1)), (1, Value.int .i64 (p2)), (2, Value.bool (p3)), (6, Value.int .i64 (0)), (7, Value.int .i64 (x8)), (14, Value.bool (true)), (31, Value.bool (x23))] ∧ Sat w0 w K22 (L)) ?_ ?_
          ·
            skip
            rcases ifB h24 with ⟨hc25, h24⟩ | ⟨hc25, h24⟩
            ·
              replace hS := hS.known (k := 21) rfl hc25
              refine st_off hS rfl rfl rfl rfl rfl rfl (by decide) fun a hS => ?_
              refine st_off hS rfl rfl rfl rfl rfl rfl (by decide) fun a hS => ?_
              refine st_off_undef hS rfl rfl rfl rfl rfl (by decide) fun a hS => ?_
              refine st_off_undef hS rfl rfl rfl rfl rfl (by decide) fun a hS => ?_
              refine st_off_undef hS rfl rfl rfl rfl rfl (by decide) fun a hS => ?_
              refine st_off_undef hS rfl rfl rfl rfl rfl (by decide) fun a hS => ?_
              refine st_off_undef hS rfl rfl rfl rfl rfl (by decide) fun a hS => ?_
              refine st_off_undef hS rfl rfl rfl rfl rfl (by decide) fun a hS => ?_
              refine st_off hS rfl rfl rfl rfl rfl rfl (by decide) fun a hS => ?_
              refine st_want hS rfl rfl rfl rfl rfl (by decide) (r_pick_true rfl (hS.ev_ rfl) rfl (hS.ev_ rfl)) fun a hS => ?_
              refine st_done ?_
              replace hS : Slots 36 [] a [(31, Value.bool (true)), (14, Value.bool (true)), (7, Value.int .i64 (x8)), (6, Value.int .i64 (0)), (0, strV (p1)), (1, Value.int .i64 (p2)), (2, Value.bool (p3))] := (hS.part (.cons rfl (.cons rfl (.cons rfl (.cons rfl (.cons rfl (.cons rfl (.cons rfl (.nil _)))))))))
              refine x_then ?_
              obtain rfl := Option.some.inj h24
              exact ⟨K20, (Hp.le.refl _), (hS.part (.cons rfl (.cons rfl (.cons rfl (.cons rfl (.cons rfl (.cons rfl (.cons rfl (.nil _))))))))), hM⟩
            ·
              replace hS := hS.known (k := 21) rfl hc25
              refine st_want hS rfl rfl rfl rfl rfl (by decide) (r_move rfl (hS.ev_ rfl)) fun a hS => ?_
              refine st_want hS rfl rfl rfl rfl rfl (by decide) (r_move rfl (hS.ev_ rfl)) fun a hS => ?_
              obtain ⟨x27, h28, h24⟩ := bindO h24
              refine wl_cut 7 (fun a w => ∃ (K26 : Hp), Hp.le K20 K26 ∧ Slots 36 [] a [(0, strV (p1)), (1, Value.int .i64 (p2)), (2, Value.bool (p3)), (6, Value.int .i64 (0)), (7, Value.int .i64 (x8)), (14, Value.bool (true)), (21, Value.bool (false)), (30, Value.bool (x27))] ∧ Sat w0 w K26 (L)) ?_ ?_
              ·
                skip
                rcases ifB h28 with ⟨hc29, h28⟩ | ⟨hc29, h28⟩
                ·
                  replace hS := hS.known (k := 23) rfl hc29
                  refine st_want hS rfl rfl rfl rfl rfl (by decide) (r_move rfl (hS.ev_ rfl)) fun a hS => ?_
                  refine st_want hS rfl rfl rfl rfl rfl (by decide) (r_move rfl (hS.ev_ rfl)) fun a hS => ?_
                  refine st_want hS rfl rfl rfl rfl rfl (by decide) (r_move rfl (hS.ev_ rfl)) fun a hS => ?_
                  refine st_want hS rfl rfl rfl rfl rfl (by decide) (r_add rfl (hS.ev_ rfl) (hS.ev_ rfl)) fun a hS => ?_
                  obtain ⟨c30, h31, h28⟩ := bindO h28
                  refine st_want hS rfl rfl rfl rfl rfl (by decide) (r_index_s rfl un_9 (hS.ev_ rfl) (hS.ev_ rfl) h31) fun a hS => ?_
                  obtain ⟨y32, h33, h28⟩ := bindO h28
                  have hc35 := R_Letter_c hG h33 hM
                  refine g_want hS rfl rfl rfl rfl (e_call rfl Tryd.func17 rfl rfl (args1 (hS.ev_ rfl)) hc35 ?_)
                  rintro _ w ⟨K34, hlK34, hM, rfl⟩
                  refine ⟨_, rfl, ?_⟩
                  refine pl hS rfl (by decide) fun a hS => ?_
                  refine st_want hS rfl rfl rfl rfl rfl (by decide) (r_pick_true rfl (hS.ev_ rfl) rfl (hS.ev_ rfl)) fun a hS => ?_
                  refine st_done ?_
                  replace hS : Slots 36 [] a [(30, Value.bool (y32)), (21, Value.bool (false)), (14, Value.bool (true)), (7, Value.int .i64 (x8)), (6, Value.int .i64 (0)), (0, strV (p1)), (1, Value.int .i64 (p2)), (2, Value.bool (p3))] := (hS.part (.cons rfl (.cons rfl (.cons rfl (.cons rfl (.cons rfl (.cons rfl (.cons rfl (.cons rfl (.nil _))))))))))
                  refine x_then ?_
                  obtain rfl := Option.some.inj h28
                  exact ⟨K34, hlK34, (hS.part (.cons rfl (.cons rfl (.cons rfl (.cons rfl (.cons rfl (.cons rfl (.cons rfl (.cons rfl (.nil _)))))))))), hM⟩
                ·
                  replace hS := hS.known (k := 23) rfl hc29
                  refine st_off hS rfl rfl rfl rfl rfl rfl (by decide) fun a hS => ?_
                  refine st_off hS rfl rfl rfl rfl rfl rfl (by decide) fun a hS => ?_
                  refine st_off hS rfl rfl rfl rfl rfl rfl (by decide) fun a hS => ?_
                  refine st_off hS rfl rfl rfl rfl rfl rfl (by decide) fun a hS => ?_
                  refine st_off hS rfl rfl rfl rfl rfl rfl (by decide) fun a hS => ?_
                  refine st_off hS rfl rfl rfl rfl rfl rfl (by decide) fun a hS => ?_
                  refine st_want hS rfl rfl rfl rfl rfl (by decide) (r_pick_false rfl (hS.ev_ rfl) rfl (hS.ev_ rfl)) fun a hS => ?_
                  refine st_done ?_
                  replace hS : Slots 36 [] a [(30, Value.bool (false)), (21, Value.bool (false)), (14, Value.bool (true)), (7, Value.int .i64 (x8)), (6, Value.int .i64 (0)), (0, strV (p1)), (1, Value.int .i64 (p2)), (2, Value.bool (p3))] := (hS.part (.cons rfl (.cons rfl (.cons rfl (.cons rfl (.cons rfl (.cons rfl (.cons rfl (.cons rfl (.nil _))))))))))
                  refine x_then ?_
                  obtain rfl := Option.some.inj h28
                  exact ⟨K20, (Hp.le.refl _), (hS.part (.cons rfl (.cons rfl (.cons rfl (.cons rfl (.cons rfl (.cons rfl (.cons rfl (.cons rfl (.nil _)))))))))), hM⟩
              · rintro a w ⟨K26, hlK26, hS, hM⟩
                refine st_want hS rfl rfl rfl rfl rfl (by decide) (r_pick_false rfl (hS.ev_ rfl) rfl (hS.ev_ rfl)) fun a hS => ?_
                refine st_done ?_
                replace hS : Slots 36 [] a [(31, Value.bool (x27)), (0, strV (p1)), (1, Value.int .i64 (p2)), (2, Value.bool (p3)), (6, Value.int .i64 (0)), (7, Value.int .i64 (x8)), (14, Value.bool (true))] := (hS.part (.cons rfl (.cons rfl (.cons rfl (.cons rfl (.cons rfl (.cons rfl (.cons rfl (.nil _)))))))))
                refine x_then ?_
                obtain rfl := Option.some.inj h24
                exact ⟨K26, hlK26, (hS.part (.cons rfl (.cons rfl (.cons rfl (.cons rfl (.cons rfl (.cons rfl (.cons rfl (.nil _))))))))), hM⟩
          · rintro a w ⟨K22, hlK22, hS, hM⟩
            refine st_val hS rfl rfl (by decide) (r_pick_true rfl (hS.ev_ rfl) rfl (hS.ev_ rfl)) fun a hS => ?_
            refine st_done ?_
            replace hS : Slots 36 [] a [(32, Value.bool (x23)), (0, strV (p1)), (1, Value.int .i64 (p2)), (2, Value.bool (p3)), (6, Value.int .i64 (0)), (7, Value.int .i64 (x8))] := (hS.part (.cons rfl (.cons rfl (.cons rfl (.cons rfl (.cons rfl (.cons rfl (.nil _))))))))
            refine x_then ?_
            obtain rfl := Option.some.inj h14
            exact ⟨K22, (hlK20.trans hlK22), (hS.part (.cons rfl (.cons rfl (.cons rfl (.cons rfl (.cons rfl (.cons rfl (.nil _)))))))), hM⟩
        ·
          replace hS := hS.known (k := 14) rfl hc15
          refine st_off hS rfl rfl rfl rfl rfl rfl (by decide) fun a hS => ?_
          refine st_off hS rfl rfl rfl rfl rfl rfl (by decide) fun a hS => ?_
          refine st_off hS rfl rfl rfl rfl rfl rfl (by decide) fun a hS => ?_
          refine st_off hS rfl rfl rfl rfl rfl rfl (by decide) fun a hS => ?_
          refine st_off hS rfl rfl rfl rfl rfl rfl (by decide) fun a hS => ?_
          refine st_off hS rfl rfl rfl rfl rfl rfl (by decide) fun a hS => ?_
          refine st_off hS rfl rfl rfl rfl rfl rfl (by decide) fun a hS => ?_
          refine st_off_undef hS rfl rfl rfl rfl rfl (by decide) fun a hS => ?_
          refine st_off_undef hS rfl rfl rfl rfl rfl (by decide) fun a hS => ?_
          refine st_off_undef hS rfl rfl rfl rfl rfl (by decide) fun a hS => ?_
          refine st_off_undef hS rfl rfl rfl rfl rfl (by decide) fun a hS => ?_
          refine st_off_undef hS rfl rfl rfl rfl rfl (by decide) fun a hS => ?_
          refine st_off_undef hS rfl rfl rfl rfl rfl (by decide) fun a hS => ?_
          refine st_off_undef hS rfl rfl rfl rfl rfl (by decide) fun a hS => ?_
          refine st_off_undef hS rfl rfl rfl rfl rfl (by decide) fun a hS => ?_
          refine st_off_undef hS rfl rfl rfl rfl rfl (by decide) fun a hS => ?_
          refine st_off hS rfl rfl rfl rfl rfl rfl (by decide) fun a hS => ?_
          refine st_val hS rfl rfl (by decide) (r_pick_false rfl (hS.ev_ rfl) rfl (hS.ev_ rfl)) fun a hS => ?_
          refine st_done ?_
          replace hS : Slots 36 [] a [(32, Value.bool (false)), (7, Value.int .i64 (x8)), (6, Value.int .i64 (0)), (0, strV (p1)), (1, Value.int .i64 (p2)), (2, Value.bool (p3))] := (hS.part (.cons rfl (.cons rfl (.cons rfl (.cons rfl (.cons rfl (.cons rfl (.nil _))))))))
          refine x_then ?_
          obtain rfl := Option.some.inj h14
          exact ⟨K7, (Hp.le.refl _), (hS.part (.cons rfl (.cons rfl (.cons rfl (.cons rfl (.cons rfl (.cons rfl (.nil _)))))))), hM⟩
      · rintro a w ⟨K12, hlK12, hS, hM⟩
        refine st_done ?_
        replace hS : Slots 36 [] a [(0, strV (p1)), (1, Value.int .i64 (p2)), (2, Value.bool (p3)), (6, Value.int .i64 (0)), (7, Value.int .i64 (x8)), (32, Value.bool (x13))] := (hS.part (.cons rfl (.cons rfl (.cons rfl (.cons rfl (.cons rfl (.cons rfl (.nil _))))))))
        refine x_then ?_
        rcases ifB h with ⟨hc36, h⟩ | ⟨hc36, h⟩
        · refine c_cond_true (hS.ev_ rfl) hc36 ?_
          refine wp_skip ?_
          refine x_then ?_
          refine wp_block ?_
          refine wp_region_lit ?_
          refine st_val hS rfl rfl (by decide) (r_move rfl (hS.ev_ rfl)) fun a hS => ?_
          refine st_val hS rfl rfl (by decide) (r_add rfl (hS.ev_ rfl) (hS.ev_ rfl)) fun a hS => ?_
          refine st_val hS rfl rfl (by decide) (r_assign rfl (hS.ev_ rfl)) fun a hS => ?_
          refine st_done ?_
          replace hS : Slots 36 [] a [(7, Value.int .i64 (w64 (x8 + 1))), (0, strV (p1)), (1, Value.int .i64 (p2)), (2, Value.bool (p3)), (6, Value.int .i64 (0))] := (hS.part (.cons rfl (.cons rfl (.cons rfl (.cons rfl (.cons rfl (.nil _)))))))
          refine x_block ?_
          refine x_then ?_
          exact ih (w64 (x8 + 1)) _ h hr K12 _ _ (hlK7.trans hlK12) (hS.part (.cons rfl (.cons rfl (.cons rfl (.cons rfl (.cons rfl (.nil _))))))) (hM)
        · refine c_cond_false (hS.ev_ rfl) hc36 ?_
          refine wp_exit ?_
          refine x_then_exit ?_
          refine x_then_exit ?_
          have ho' := (Option.some.inj h).trans hr
          refine hQ _ _ _ ?_
          subst ho'
          exact ⟨rfl, K12, (hlK7.trans hlK12), (hS.part (.cons rfl (.cons rfl (.nil _)))), hM⟩
    exact key 0 _ h10 rfl K _ _ (Hp.le.refl _) (hS.part (.cons rfl (.cons rfl (.cons rfl (.cons rfl (.cons rfl (.nil _))))))) (hM)
  · rintro e a w ⟨rfl, K11, hlK11, hS, hM⟩
    refine x_block_here ?_
    refine x_then ?_
    refine wp_seq ?_
    refine wp_region_lit ?_
    refine st_val hS rfl rfl (by decide) (r_move rfl (hS.ev_ rfl)) fun a hS => ?_
    refine st_val hS rfl rfl (by decide) (r_assign rfl (hS.ev_ rfl)) fun a hS => ?_
    refine st_done ?_
    replace hS : Slots 36 [] a [(6, Value.int .i64 (o9))] := (hS.part (.cons rfl (.nil _)))
    refine x_then ?_
    refine wp_ret ?_
    have hr' := Option.some.inj h
    subst hr'
    refine ret1 (.inr rfl) hS rfl rfl ?_
    exact ⟨K11, hlK11, hM, rfl⟩

theorem R_Named_c {w0 w : World} {K : Hp} {L : List SP} {p1 : List UInt8} {r : Bool} (hG : Glob w0) (h : R_Named p1 = some r) (hM : Sat w0 w K (L)) :
    Calls Tryd.prog 16 #[strV (p1)] w (fun e w' => ∃ (K' : Hp), Hp.le K K' ∧ Sat w0 w' K' (L) ∧ e = .returned (Value.bool (r))) := by
  refine enter_ (n := 26) (args := [strV (p1)]) Tryd.func16 rfl rfl (Nat.le_of_ble_eq_true rfl) fun a hS => ?_
  replace hS : Slots 26 [] a [(0, strV (p1))] := hS
  unfold R_Named at h
  refine wp_seq ?_
  refine wp_region_lit ?_
  refine st_val hS rfl rfl (by decide) (r_assign rfl (hS.ev_ rfl)) fun a hS => ?_
  refine st_done ?_
  replace hS : Slots 26 [] a [(2, Value.bool (false)), (0, strV (p1))] := (hS.part (.cons rfl (.cons rfl (.nil _))))
  refine x_then ?_
  refine wp_seq ?_
  refine wp_seq ?_
  refine wp_region_lit ?_
  refine st_val hS rfl rfl (by decide) (r_move rfl (hS.ev_ rfl)) fun a hS => ?_
  refine st_val hS rfl rfl (by decide) (r_len_str rfl un_9 (hS.ev_ rfl)) fun a hS => ?_
  refine st_val hS rfl rfl (by decide) (r_cmp rfl (hS.ev_ rfl) (hS.ev_ rfl) rfl) fun a hS => ?_
  refine st_val hS rfl rfl (by decide) (r_move rfl (hS.ev_ rfl)) fun a hS => ?_
  obtain ⟨x2, h3, h⟩ := bindO h
  refine wl_cut 4 (fun a w => Slots 26 [] a [(0, strV (p1)), (2, Value.bool (false)), (10, Value.bool (x2))] ∧ Sat w0 w K (L)) ?_ ?_
  ·
    skip
    rcases ifB h3 with ⟨hc4, h3⟩ | ⟨hc4, h3⟩
    ·
      replace hS := hS.known (k := 6) rfl hc4
      refine st_off hS rfl rfl rfl rfl rfl rfl (by decide) fun a hS => ?_
      refine st_off hS rfl rfl rfl rfl rfl rfl (by decide) fun a hS => ?_
      refine st_off hS rfl rfl rfl rfl rfl rfl (by decide) fun a hS => ?_
      refine st_val hS rfl rfl (by decide) (r_pick_true rfl (hS.ev_ rfl) rfl (hS.ev_ rfl)) fun a hS => ?_
      refine st_done ?_
      replace hS : Slots 26 [] a [(10, Value.bool (true)), (2, Value.bool (false)), (0, strV (p1))] := (hS.part (.cons rfl (.cons rfl (.cons rfl (.nil _)))))
      refine x_then ?_
      obtain rfl := Option.some.inj h3
      exact ⟨(hS.part (.cons rfl (.cons rfl (.cons rfl (.nil _))))), hM⟩
    ·
      replace hS := hS.known (k := 6) rfl hc4
      refine st_want hS rfl rfl rfl rfl rfl (by decide) (r_move rfl (hS.ev_ rfl)) fun a hS => ?_
      refine st_want hS rfl rfl rfl rfl rfl (by decide) (r_len_str rfl un_9 (hS.ev_ rfl)) fun a hS => ?_
      refine st_want hS rfl rfl rfl rfl rfl (by decide) (r_cmp rfl (hS.ev_ rfl) (hS.ev_ rfl) rfl) fun a hS => ?_
      refine st_val hS rfl rfl (by decide) (r_pick_false rfl (hS.ev_ rfl) rfl (hS.ev_ rfl)) fun a hS => ?_
      refine st_done ?_
      replace hS : Slots 26 [] a [(10, Value.bool (decide (((p1.length : Int)) > 24))), (2, Value.bool (false)), (0, strV (p1))] := (hS.part (.cons rfl (.cons rfl (.cons rfl (.nil _)))))
      refine x_then ?_
      obtain rfl := Option.some.inj h3
      exact ⟨(hS.part (.cons rfl (.cons rfl (.cons rfl (.nil _))))), hM⟩
  · rintro a w ⟨hS, hM⟩
    refine st_val hS rfl rfl (by decide) (r_move rfl (hS.ev_ rfl)) fun a hS => ?_
    obtain ⟨x6, h7, h⟩ := bindO h
    refine wl_cut 6 (fun a w => ∃ (K5 : Hp), Hp.le K K5 ∧ Slots 26 [] a [(0, strV (p1)), (2, Value.bool (false)), (17, Value.bool (x6))] ∧ Sat w0 w K5 (L)) ?_ ?_
    ·
      skip
      rcases ifB h7 with ⟨hc8, h7⟩ | ⟨hc8, h7⟩
      ·
        replace hS := hS.known (k := 11) rfl hc8
        refine st_off hS rfl rfl rfl rfl rfl rfl (by decide) fun a hS => ?_
        refine st_off hS rfl rfl rfl rfl rfl rfl (by decide) fun a hS => ?_
        refine st_off hS rfl rfl rfl rfl rfl rfl (by decide) fun a hS => ?_
        refine st_off hS rfl rfl rfl rfl rfl rfl (by decide) fun a hS => ?_
        refine st_off hS rfl rfl rfl rfl rfl rfl (by decide) fun a hS => ?_
        refine st_val hS rfl rfl (by decide) (r_pick_true rfl (hS.ev_ rfl) rfl (hS.ev_ rfl)) fun a hS => ?_
        refine st_done ?_
        replace hS : Slots 26 [] a [(17, Value.bool (true)), (0, strV (p1)), (2, Value.bool (false))] := (hS.part (.cons rfl (.cons rfl (.cons rfl (.nil _)))))
        refine x_then ?_
        obtain rfl := Option.some.inj h7
        exact ⟨K, (Hp.le.refl _), (hS.part (.cons rfl (.cons rfl (.cons rfl (.nil _))))), hM⟩
      ·
        replace hS := hS.known (k := 11) rfl hc8
        refine st_want hS rfl rfl rfl rfl rfl (by decide) (r_move rfl (hS.ev_ rfl)) fun a hS => ?_
        obtain ⟨y9, h10, h7⟩ := bindO h7
        have hc12 := R_span_c hG h10 hM
        refine g_want hS rfl rfl rfl rfl (e_call rfl Tryd.func31 rfl rfl (args3 (hS.ev_ rfl) (hS.ev_ rfl) (hS.ev_ rfl)) hc12 ?_)
        rintro _ w ⟨K11, hlK11, hM, rfl⟩
        refine ⟨_, rfl, ?_⟩
        refine pl hS rfl (by decide) fun a hS => ?_
        refine st_want hS rfl rfl rfl rfl rfl (by decide) (r_move rfl (hS.ev_ rfl)) fun a hS => ?_
        refine st_want hS rfl rfl rfl rfl rfl (by decide) (r_len_str rfl un_9 (hS.ev_ rfl)) fun a hS => ?_
        refine st_want hS rfl rfl rfl rfl rfl (by decide) (r_cmp rfl (hS.ev_ rfl) (hS.ev_ rfl) rfl) fun a hS => ?_
        refine st_val hS rfl rfl (by decide) (r_pick_false rfl (hS.ev_ rfl) rfl (hS.ev_ rfl)) fun a hS => ?_
        refine st_done ?_
        replace hS : Slots 26 [] a [(17, Value.bool (y9 != ((p1.length : Int)))), (0, strV (p1)), (2, Value.bool (false))] := (hS.part (.cons rfl (.cons rfl (.cons rfl (.nil _)))))
        refine x_then ?_
        obtain rfl := Option.some.inj h7
        exact ⟨K11, hlK11, (hS.part (.cons rfl (.cons rfl (.cons rfl (.nil _))))), hM⟩
    · rintro a w ⟨K5, hlK5, hS, hM⟩
      refine st_done ?_
      replace hS : Slots 26 [] a [(0, strV (p1)), (2, Value.bool (false)), (17, Value.bool (x6))] := (hS.part (.cons rfl (.cons rfl (.cons rfl (.nil _)))))
      refine x_then ?_
      rcases ifB h with ⟨hc13, h⟩ | ⟨hc13, h⟩
      · refine c_cond_true (hS.ev_ rfl) hc13 ?_
        refine wp_seq ?_
        refine wp_region_lit ?_
        refine st_val hS rfl rfl (by decide) (r_assign rfl (hS.ev_ rfl)) fun a hS => ?_
        refine st_done ?_
        replace hS : Slots 26 [] a [(2, Value.bool (false)), (0, strV (p1))] := (hS.part (.cons rfl (.cons rfl (.nil _))))
        refine x_then ?_
        refine wp_ret ?_
        refine x_then_ret ?_
        have hr' := Option.some.inj h
        subst hr'
        refine ret1 (.inr rfl) hS rfl rfl ?_
        exact ⟨K5, hlK5, hM, rfl⟩
      · refine c_cond_false (hS.ev_ rfl) hc13 ?_
        refine wp_skip ?_
        refine x_then ?_
        refine wp_seq ?_
        refine wp_region_lit ?_
        refine st_val hS rfl rfl (by decide) (r_move rfl (hS.ev_ rfl)) fun a hS => ?_
        obtain ⟨c14, h15, h⟩ := bindO h
        refine st_val hS rfl rfl (by decide) (r_index_s rfl un_9 (hS.ev_ rfl) (hS.ev_ rfl) h15) fun a hS => ?_
        obtain ⟨y16, h17, h⟩ := bindO h
        have hc19 := R_Letter_c hG h17 hM
        refine wl_cons rfl (e_call rfl Tryd.func17 rfl rfl (args1 (hS.ev_ rfl)) hc19 ?_)
        rintro _ w ⟨K18, hlK18, hM, rfl⟩
        refine ⟨_, rfl, ?_⟩
        refine pl hS rfl (by decide) fun a hS => ?_
        refine st_val hS rfl rfl (by decide) (r_move rfl (hS.ev_ rfl)) fun a hS => ?_
        obtain ⟨x20, h21, h⟩ := bindO h
        refine wl_cut 4 (fun a w => Slots 26 [] a [(2, Value.bool (false)), (25, Value.bool (x20))] ∧ Sat w0 w K18 (L)) ?_ ?_
        ·
          skip
          rcases ifB h21 with ⟨hc22, h21⟩ | ⟨hc22, h21⟩
          ·
            replace hS := hS.known (k := 21) rfl hc22
            refine st_off hS rfl rfl rfl rfl rfl rfl (by decide) fun a hS => ?_
            refine st_off hS rfl rfl rfl rfl rfl rfl (by decide) fun a hS => ?_
            refine st_off hS rfl rfl rfl rfl rfl rfl (by decide) fun a hS => ?_
            refine st_val hS rfl rfl (by decide) (r_pick_true rfl (hS.ev_ rfl) rfl (hS.ev_ rfl)) fun a hS => ?_
            refine st_done ?_
            replace hS : Slots 26 [] a [(25, Value.bool (true)), (2, Value.bool (false))] := (hS.part (.cons rfl (.cons rfl (.nil _))))
            refine x_then ?_
            obtain rfl := Option.some.inj h21
            exact ⟨(hS.part (.cons rfl (.cons rfl (.nil _)))), hM⟩
          ·
            replace hS := hS.known (k := 21) rfl hc22
            refine st_want hS rfl rfl rfl rfl rfl (by decide) (r_move rfl (hS.ev_ rfl)) fun a hS => ?_
            refine st_want hS rfl rfl rfl rfl rfl (by decide) (r_len_str rfl un_9 (hS.ev_ rfl)) fun a hS => ?_
            refine st_want hS rfl rfl rfl rfl rfl (by decide) (r_cmp rfl (hS.ev_ rfl) (hS.ev_ rfl) rfl) fun a hS => ?_
            refine st_val hS rfl rfl (by decide) (r_pick_false rfl (hS.ev_ rfl) rfl (hS.ev_ rfl)) fun a hS => ?_
            refine st_done ?_
            replace hS : Slots 26 [] a [(25, Value.bool (((p1.length : Int)) == 1)), (2, Value.bool (false))] := (hS.part (.cons rfl (.cons rfl (.nil _))))
            refine x_then ?_
            obtain rfl := Option.some.inj h21
            exact ⟨(hS.part (.cons rfl (.cons rfl (.nil _)))), hM⟩
        · rintro a w ⟨hS, hM⟩
          refine st_val hS rfl rfl (by decide) (r_assign rfl (hS.ev_ rfl)) fun a hS => ?_
          refine st_done ?_
          replace hS : Slots 26 [] a [(2, Value.bool (x20))] := (hS.part (.cons rfl (.nil _)))
          refine x_then ?_
          refine wp_ret ?_
          have hr' := Option.some.inj h
          subst hr'
          refine ret1 (.inr rfl) hS rfl rfl ?_
          exact ⟨K18, (hlK5.trans hlK18), hM, rfl⟩

theorem R_Right_c {w0 w : World} {K : Hp} {L : List SP} {p1 : List R_Piece} {v2 : Value} {r : Bool} (hG : Glob w0) (h : R_Right p1 = some r) (f3 : kR_Piece.sl K v2 p1) (hM : Sat w0 w K (L)) :
    Calls Tryd.prog 8 #[v2] w (fun e w' => ∃ (K' : Hp), Hp.le K K' ∧ Sat w0 w' K' (L) ∧ e = .returned (Value.bool (r))) := by
  refine enter_ (n := 61) (args := [v2]) Tryd.func8 rfl rfl (Nat.le_of_ble_eq_true rfl) fun a hS => ?_
  replace hS : Slots 61 [] a [(0, v2)] := hS
  unfold R_Right at h
  refine wp_seq ?_
  refine wp_region_lit ?_
  refine st_val hS rfl rfl (by decide) (r_assign rfl (hS.ev_ rfl)) fun a hS => ?_
  refine st_done ?_
  replace hS : Slots 61 [] a [(2, Value.bool (false)), (0, v2)] := (hS.part (.cons rfl (.cons rfl (.nil _))))
  refine x_then ?_
  refine wp_seq ?_
  refine wp_seq ?_
  refine wp_region_lit ?_
  refine st_val hS rfl rfl (by decide) (r_move rfl (hS.ev_ rfl)) fun a hS => ?_
  refine st_val hS rfl rfl (by decide) (r_len_sl rfl un_27 (hS.ev_ rfl) f3) fun a hS => ?_
  refine st_val hS rfl rfl (by decide) (r_move rfl (hS.ev_ rfl)) fun a hS => ?_
  refine st_done ?_
  replace hS : Slots 61 [] a [(7, Value.int .i64 (0)), (6, Value.int .i64 ((p1.length : Int))), (5, v2), (2, Value.bool (false)), (0, v2)] := (hS.part (.cons rfl (.cons rfl (.cons rfl (.cons rfl (.cons rfl (.nil _)))))))
  refine x_then ?_
  refine wp_block ?_
  obtain ⟨o9, h10, h⟩ := bindO h
  refine c_loop_ways (fun e a w => (e = .exit 0 ∧ ∃ (K11 : Hp) (x12 : Unit), Hp.le K K11 ∧ o9 = Sum.inl x12 ∧ Slots 61 [] a [(0, v2), (2, Value.bool (false))] ∧ Sat w0 w K11 (L)) ∨ (e = .ret ∧ ∃ (K13 : Hp) (x14 : Unit), Hp.le K K13 ∧ o9 = Sum.inr x14 ∧ Slots 61 [] a [(2, Value.bool (false))] ∧ Sat w0 w K13 (L))) ?_ ?_
  · intro c Q hc hQ
    have key : ∀ (x8 : Int) (r' : Sum Unit Unit), R_Right_l1 p1 x8 = some r' → r' = o9 → ∀ (K7 : Hp) (a : Act) (w : World), Hp.le K K7 → Slots 61 [] a [(7, Value.int .i64 (x8)), (6, Value.int .i64 ((p1.length : Int))), (5, v2), (2, Value.bool (false)), (0, v2)] → Sat w0 w K7 (L) → Rnd Tryd.prog c Q a w := by
      refine R_Right_l1.partial_correctness p1 _ ?_
      intro R_Right_l1_rec ih x8 r' h hr K7  a w hlK7 hS hM 
      subst hc
      refine c_round ?_
      refine wp_seq ?_
      refine wp_region_lit ?_
      refine st_val hS rfl rfl (by decide) (r_cmp rfl (hS.ev_ rfl) (hS.ev_ rfl) rfl) fun a hS => ?_
      refine st_done ?_
      replace hS : Slots 61 [] a [(8, Value.bool (decide (x8 < ((p1.length : Int))))), (7, Value.int .i64 (x8)), (6, Value.int .i64 ((p1.length : Int))), (5, v2), (2, Value.bool (false)), (0, v2)] := (hS.part (.cons rfl (.cons rfl (.cons rfl (.cons rfl (.cons rfl (.cons rfl (.nil _))))))))
      refine x_then ?_
      refine wp_seq ?_
      rcases ifB h with ⟨hc15, h⟩ | ⟨hc15, h⟩
      · refine c_cond_true (hS.ev_ rfl) hc15 ?_
        refine wp_skip ?_
        refine x_then ?_
        refine wp_seq ?_
        refine wp_block ?_
        refine wp_seq ?_
        refine wp_region_lit ?_
        refine st_val hS rfl rfl (by decide) (r_move rfl (hS.ev_ rfl)) fun a hS => ?_
        obtain ⟨e16, h17, h⟩ := bindO h
        obtain ⟨ad18, cp19, cs20, hv21, hr22, h0_23, h1_24, hq25⟩ := sl_at f3 h17 (by decide)
        obtain rfl := kR_Piece_open hr22
        refine st_val hS rfl rfl (by decide) (r_idx_sl rfl un_27 ti_47 (hS.ev_ rfl) hv21 (hS.ev_ rfl) h0_23 h1_24) fun a hS => ?_
        refine st_val hS rfl rfl (by decide) (r_ldN_k (cs' := [strV (e16.f_Var), strV (e16.f_Lit)]) rfl ag_47 ti_47 (hS.ev_ rfl) hq25 rfl (Rd.up hlK7 hM.nil_)) fun a hS => ?_
        refine wl_cons rfl (e_alloc (cs := [strV (([] : List UInt8)), strV (([] : List UInt8))]) hM rfl ti_47 rfl fun g26 w hM => ?_)
        refine pl hS rfl (by decide) fun a hS => ?_
        refine st_val hS rfl rfl (by decide) (r_assign rfl (hS.ev_ rfl)) fun a hS => ?_
        refine wl_cons rfl (e_storeN (vs := [strV (e16.f_Var), strV (e16.f_Lit)]) hM rfl ti_47 (hS.ev_ rfl) (hS.ev_ rfl) (ones_cons rfl (ones_cons rfl ones_nil)) (Nat.le_of_ble_eq_true rfl) fun w hM => ?_)
        have hM : Sat w0 w K7 (SP.blk g26 47 [strV (e16.f_Var), strV (e16.f_Lit)] :: L) := hM
        refine pl0 hS rfl fun a hS => ?_
        refine st_done ?_
        replace hS : Slots 61 [] a [(3, Value.int .i64 (x8)), (4, Value.pointer (some ⟨g26, 0, none⟩)), (7, Value.int .i64 (x8)), (6, Value.int .i64 ((p1.length : Int))), (5, v2), (2, Value.bool (false)), (0, v2)] := (hS.part (.cons rfl (.cons rfl (.cons rfl (.cons rfl (.cons rfl (.cons rfl (.cons rfl (.nil _)))))))))
        refine x_then ?_
        refine wp_seq ?_
        refine wp_seq ?_
        refine wp_region_lit ?_
        refine st_val hS rfl rfl (by decide) (r_fld_b rfl fo_47_0 (hS.ev_ rfl)) fun a hS => ?_
        refine st_val hS rfl rfl (by decide) (r_ld1_b rfl ag_9 (hS.ev_ rfl) rfl (Rd.of hM)) fun a hS => ?_
        refine st_val hS rfl rfl (by decide) (r_len_str rfl un_9 (hS.ev_ rfl)) fun a hS => ?_
        refine st_val hS rfl rfl (by decide) (r_cmp rfl (hS.ev_ rfl) (hS.ev_ rfl) rfl) fun a hS => ?_
        refine st_val hS rfl rfl (by decide) (r_fld_b rfl fo_47_1 (hS.ev_ rfl)) fun a hS => ?_
        refine st_val hS rfl rfl (by decide) (r_ld1_b rfl ag_9 (hS.ev_ rfl) rfl (Rd.of hM)) fun a hS => ?_
        refine st_val hS rfl rfl (by decide) (r_len_str rfl un_9 (hS.ev_ rfl)) fun a hS => ?_
        refine st_val hS rfl rfl (by decide) (r_cmp rfl (hS.ev_ rfl) (hS.ev_ rfl) rfl) fun a hS => ?_
        refine st_val hS rfl rfl (by decide) (r_beq rfl un_4 (hS.ev_ rfl) (hS.ev_ rfl)) fun a hS => ?_
        refine st_val hS rfl rfl (by decide) (r_move rfl (hS.ev_ rfl)) fun a hS => ?_
        obtain ⟨x29, h30, h⟩ := bindO h
        refine wl_cut 11 (fun a w => ∃ (K28 : Hp), Hp.le K7 K28 ∧ Slots 61 [] a [(0, v2), (2, Value.bool (false)), (3, Value.int .i64 (x8)), (4, Value.pointer (some ⟨g26, 0, none⟩)), (5, v2), (6, Value.int .i64 ((p1.length : Int))), (7, Value.int .i64 (x8)), (32, Value.bool (x29))] ∧ Sat w0 w K28 (SP.blk g26 47 [strV (e16.f_Var), strV (e16.f_Lit)] :: L)) ?_ ?_
        ·
          skip
          rcases ifB h30 with ⟨hc31, h30⟩ | ⟨hc31, h30⟩
          ·
            replace hS := hS.known (k := 21) rfl hc31
            refine st_off hS rfl rfl rfl rfl rfl rfl (by decide) fun a hS => ?_
            refine st_off hS rfl rfl rfl rfl rfl rfl (by decide) fun a hS => ?_
            refine st_off hS rfl rfl rfl rfl rfl rfl (by decide) fun a hS => ?_
            refine st_off hS rfl rfl rfl rfl rfl rfl (by decide) fun a hS => ?_
            refine st_off hS rfl rfl rfl rfl rfl rfl (by decide) fun a hS => ?_
            refine st_off_undef hS rfl rfl rfl rfl rfl (by decide) fun a hS => ?_
            refine st_off_undef hS rfl rfl rfl rfl rfl (by decide) fun a hS => ?_
            refine st_off_undef hS rfl rfl rfl rfl rfl (by decide) fun a hS => ?_
            refine st_off_undef hS rfl rfl rfl rfl rfl (by decide) fun a hS => ?_
            refine st_off hS rfl rfl rfl rfl rfl rfl (by decide) fun a hS => ?_
            refine st_val hS rfl rfl (by decide) (r_pick_true rfl (hS.ev_ rfl) rfl (hS.ev_ rfl)) fun a hS => ?_
            refine st_done ?_
            replace hS : Slots 61 [] a [(32, Value.bool (true)), (3, Value.int .i64 (x8)), (4, Value.pointer (some ⟨g26, 0, none⟩)), (7, Value.int .i64 (x8)), (6, Value.int .i64 ((p1.length : Int))), (5, v2), (2, Value.bool (false)), (0, v2)] := (hS.part (.cons rfl (.cons rfl (.cons rfl (.cons rfl (.cons rfl (.cons rfl (.cons rfl (.cons rfl (.nil _))))))))))
            refine x_then ?_
            obtain rfl := Option.some.inj h30
            exact ⟨K7, (Hp.le.refl _), (hS.part (.cons rfl (.cons rfl (.cons rfl (.cons rfl (.cons rfl (.cons rfl (.cons rfl (.cons rfl (.nil _)))))))))), hM⟩
          ·
            replace hS := hS.known (k := 21) rfl hc31
            refine st_want hS rfl rfl rfl rfl rfl (by decide) (r_fld_b rfl fo_47_0 (hS.ev_ rfl)) fun a hS => ?_
            refine st_want hS rfl rfl rfl rfl rfl (by decide) (r_ld1_b rfl ag_9 (hS.ev_ rfl) rfl (Rd.of hM)) fun a hS => ?_
            refine st_want hS rfl rfl rfl rfl rfl (by decide) (r_len_str rfl un_9 (hS.ev_ rfl)) fun a hS => ?_
            refine st_want hS rfl rfl rfl rfl rfl (by decide) (r_cmp rfl (hS.ev_ rfl) (hS.ev_ rfl) rfl) fun a hS => ?_
            refine st_want hS rfl rfl rfl rfl rfl (by decide) (r_move rfl (hS.ev_ rfl)) fun a hS => ?_
            obtain ⟨x33, h34, h30⟩ := bindO h30
            refine wl_cut 5 (fun a w => ∃ (K32 : Hp), Hp.le K7 K32 ∧ Slots 61 [] a [(0, v2), (2, Value.bool (false)), (3, Value.int .i64 (x8)), (4, Value.pointer (some ⟨g26, 0, none⟩)), (5, v2), (6, Value.int .i64 ((p1.length : Int))), (7, Value.int .i64 (x8)), (21, Value.bool (false)), (31, Value.bool (x33))] ∧ Sat w0 w K32 (SP.blk g26 47 [strV (e16.f_Var), strV (e16.f_Lit)] :: L)) ?_ ?_
            ·
              skip
              rcases ifB h34 with ⟨hc35, h34⟩ | ⟨hc35, h34⟩
              ·
                replace hS := hS.known (k := 26) rfl hc35
                refine st_want hS rfl rfl rfl rfl rfl (by decide) (r_fld_b rfl fo_47_0 (hS.ev_ rfl)) fun a hS => ?_
                refine st_want hS rfl rfl rfl rfl rfl (by decide) (r_ld1_b rfl ag_9 (hS.ev_ rfl) rfl (Rd.of hM)) fun a hS => ?_
                obtain ⟨y36, h37, h34⟩ := bindO h34
                have hc39 := R_Named_c hG h37 hM
                refine g_want hS rfl rfl rfl rfl (e_call rfl Tryd.func16 rfl rfl (args1 (hS.ev_ rfl)) hc39 ?_)
                rintro _ w ⟨K38, hlK38, hM, rfl⟩
                refine ⟨_, rfl, ?_⟩
                refine pl hS rfl (by decide) fun a hS => ?_
                refine st_want hS rfl rfl rfl rfl rfl (by decide) (r_not rfl (hS.ev_ rfl)) fun a hS => ?_
                refine st_want hS rfl rfl rfl rfl rfl (by decide) (r_pick_true rfl (hS.ev_ rfl) rfl (hS.ev_ rfl)) fun a hS => ?_
                refine st_done ?_
                replace hS : Slots 61 [] a [(31, Value.bool (!y36)), (21, Value.bool (false)), (3, Value.int .i64 (x8)), (4, Value.pointer (some ⟨g26, 0, none⟩)), (7, Value.int .i64 (x8)), (6, Value.int .i64 ((p1.length : Int))), (5, v2), (2, Value.bool (false)), (0, v2)] := (hS.part (.cons rfl (.cons rfl (.cons rfl (.cons rfl (.cons rfl (.cons rfl (.cons rfl (.cons rfl (.cons rfl (.nil _)))))))))))
                refine x_then ?_
                obtain rfl := Option.some.inj h34
                exact ⟨K38, hlK38, (hS.part (.cons rfl (.cons rfl (.cons rfl (.cons rfl (.cons rfl (.cons rfl (.cons rfl (.cons rfl (.cons rfl (.nil _))))))))))), hM⟩
              ·
                replace hS := hS.known (k := 26) rfl hc35
                refine st_off hS rfl rfl rfl rfl rfl rfl (by decide) fun a hS => ?_
                refine st_off hS rfl rfl rfl rfl rfl rfl (by decide) fun a hS => ?_
                refine st_off hS rfl rfl rfl rfl rfl rfl (by decide) fun a hS => ?_
                refine st_off hS rfl rfl rfl rfl rfl rfl (by decide) fun a hS => ?_
                refine st_want hS rfl rfl rfl rfl rfl (by decide) (r_pick_false rfl (hS.ev_ rfl) rfl (hS.ev_ rfl)) fun a hS => ?_
                refine st_done ?_
                replace hS : Slots 61 [] a [(31, Value.bool (false)), (21, Value.bool (false)), (3, Value.int .i64 (x8)), (4, Value.pointer (some ⟨g26, 0, none⟩)), (7, Value.int .i64 (x8)), (6, Value.int .i64 ((p1.length : Int))), (5, v2), (2, Value.bool (false)), (0, v2)] := (hS.part (.cons rfl (.cons rfl (.cons rfl (.cons rfl (.cons rfl (.cons rfl (.cons rfl (.cons rfl (.cons rfl (.nil _)))))))))))
                refine x_then ?_
                obtain rfl := Option.some.inj h34
                exact ⟨K7, (Hp.le.refl _), (hS.part (.cons rfl (.cons rfl (.cons rfl (.cons rfl (.cons rfl (.cons rfl (.cons rfl (.cons rfl (.cons rfl (.nil _))))))))))), hM⟩
            · rintro a w ⟨K32, hlK32, hS, hM⟩
              refine st_val hS rfl rfl (by decide) (r_pick_false rfl (hS.ev_ rfl) rfl (hS.ev_ rfl)) fun a hS => ?_
              refine st_done ?_
              replace hS : Slots 61 [] a [(32, Value.bool (x33)), (0, v2), (2, Value.bool (false)), (3, Value.int .i64 (x8)), (4, Value.pointer (some ⟨g26, 0, none⟩)), (5, v2), (6, Value.int .i64 ((p1.length : Int))), (7, Value.int .i64 (x8))] := (hS.part (.cons rfl (.cons rfl (.cons rfl (.cons rfl (.cons rfl (.cons rfl (.cons rfl (.cons rfl (.nil _))))))))))
              refine x_then ?_
              obtain rfl := Option.some.inj h30
              exact ⟨K32, hlK32, (hS.part (.cons rfl (.cons rfl (.cons rfl (.cons rfl (.cons rfl (.cons rfl (.cons rfl (.cons rfl (.nil _)))))))))), hM⟩
        · rintro a w ⟨K28, hlK28, hS, hM⟩
          refine st_val hS rfl rfl (by decide) (r_move rfl (hS.ev_ rfl)) fun a hS => ?_
          obtain ⟨x40, h41, h⟩ := bindO h
          refine wl_cut 5 (fun a w => Slots 61 [] a [(0, v2), (2, Value.bool (false)), (3, Value.int .i64 (x8)), (4, Value.pointer (some ⟨g26, 0, none⟩)), (5, v2), (6, Value.int .i64 ((p1.length : Int))), (7, Value.int .i64 (x8)), (38, Value.bool (x40))] ∧ Sat w0 w K28 (SP.blk g26 47 [strV (e16.f_Var), strV (e16.f_Lit)] :: L)) ?_ ?_
          ·
            skip
            rcases ifB h41 with ⟨hc42, h41⟩ | ⟨hc42, h41⟩
            ·
              replace hS := hS.known (k := 33) rfl hc42
              refine st_off hS rfl rfl rfl rfl rfl rfl (by decide) fun a hS => ?_
              refine st_off hS rfl rfl rfl rfl rfl rfl (by decide) fun a hS => ?_
              refine st_off hS rfl rfl rfl rfl rfl rfl (by decide) fun a hS => ?_
              refine st_off hS rfl rfl rfl rfl rfl rfl (by decide) fun a hS => ?_
              refine st_val hS rfl rfl (by decide) (r_pick_true rfl (hS.ev_ rfl) rfl (hS.ev_ rfl)) fun a hS => ?_
              refine st_done ?_
              replace hS : Slots 61 [] a [(38, Value.bool (true)), (0, v2), (2, Value.bool (false)), (3, Value.int .i64 (x8)), (4, Value.pointer (some ⟨g26, 0, none⟩)), (5, v2), (6, Value.int .i64 ((p1.length : Int))), (7, Value.int .i64 (x8))] := (hS.part (.cons rfl (.cons rfl (.cons rfl (.cons rfl (.cons rfl (.cons rfl (.cons rfl (.cons rfl (.nil _))))))))))
              refine x_then ?_
              obtain rfl := Option.some.inj h41
              exact ⟨(hS.part (.cons rfl (.cons rfl (.cons rfl (.cons rfl (.cons rfl (.cons rfl (.cons rfl (.cons rfl (.nil _)))))))))), hM⟩
            ·
              replace hS := hS.known (k := 33) rfl hc42
              refine st_want hS rfl rfl rfl rfl rfl (by decide) (r_fld_b rfl fo_47_1 (hS.ev_ rfl)) fun a hS => ?_
              refine st_want hS rfl rfl rfl rfl rfl (by decide) (r_ld1_b rfl ag_9 (hS.ev_ rfl) rfl (Rd.of hM)) fun a hS => ?_
              refine st_want hS rfl rfl rfl rfl rfl (by decide) (r_len_str rfl un_9 (hS.ev_ rfl)) fun a hS => ?_
              refine st_want hS rfl rfl rfl rfl rfl (by decide) (r_cmp rfl (hS.ev_ rfl) (hS.ev_ rfl) rfl) fun a hS => ?_
              refine st_val hS rfl rfl (by decide) (r_pick_false rfl (hS.ev_ rfl) rfl (hS.ev_ rfl)) fun a hS => ?_
              refine st_done ?_
              replace hS : Slots 61 [] a [(38, Value.bool (decide (((e16.f_Lit.length : Int)) > 400))), (0, v2), (2, Value.bool (false)), (3, Value.int .i64 (x8)), (4, Value.pointer (some ⟨g26, 0, none⟩)), (5, v2), (6, Value.int .i64 ((p1.length : Int))), (7, Value.int .i64 (x8))] := (hS.part (.cons rfl (.cons rfl (.cons rfl (.cons rfl (.cons rfl (.cons rfl (.cons rfl (.cons rfl (.nil _))))))))))
              refine x_then ?_
              obtain rfl := Option.some.inj h41
              exact ⟨(hS.part (.cons rfl (.cons rfl (.cons rfl (.cons rfl (.cons rfl (.cons rfl (.cons rfl (.cons rfl (.nil _)))))))))), hM⟩
          · rintro a w ⟨hS, hM⟩
            refine st_done ?_
            replace hS : Slots 61 [] a [(0, v2), (2, Value.bool (false)), (3, Value.int .i64 (x8)), (4, Value.pointer (some ⟨g26, 0, none⟩)), (5, v2), (6, Value.int .i64 ((p1.length : Int))), (7, Value.int .i64 (x8)), (38, Value.bool (x40))] := (hS.part (.cons rfl (.cons rfl (.cons rfl (.cons rfl (.cons rfl (.cons rfl (.cons rfl (.cons rfl (.nil _))))))))))
            refine x_then ?_
            rcases ifB h with ⟨hc43, h⟩ | ⟨hc43, h⟩
            · refine c_cond_true (hS.ev_ rfl) hc43 ?_
              refine wp_seq ?_
              refine wp_region_lit ?_
              refine st_val hS rfl rfl (by decide) (r_assign rfl (hS.ev_ rfl)) fun a hS => ?_
              refine st_done ?_
              replace hS : Slots 61 [] a [(2, Value.bool (false)), (0, v2), (3, Value.int .i64 (x8)), (4, Value.pointer (some ⟨g26, 0, none⟩)), (5, v2), (6, Value.int .i64 ((p1.length : Int))), (7, Value.int .i64 (x8))] := (hS.part (.cons rfl (.cons rfl (.cons rfl (.cons rfl (.cons rfl (.cons rfl (.cons rfl (.nil _)))))))))
              refine x_then ?_
              refine wp_ret ?_
              refine x_then_ret ?_
              refine x_block_ret ?_
              refine x_then_ret ?_
              refine x_then_ret ?_
              have ho' := (Option.some.inj h).trans hr
              refine hQ _ _ _ ?_
              exact .inr (⟨rfl, K28, (()), (hlK7.trans hlK28), ho'.symm, (hS.part (.cons rfl (.nil _))), (hM).tail⟩)
            · refine c_cond_false (hS.ev_ rfl) hc43 ?_
              refine wp_skip ?_
              refine x_then ?_
              refine wp_seq ?_
              refine wp_region_lit ?_
              refine st_val hS rfl rfl (by decide) (r_move rfl (hS.ev_ rfl)) fun a hS => ?_
              refine st_val hS rfl rfl (by decide) (r_cmp rfl (hS.ev_ rfl) (hS.ev_ rfl) rfl) fun a hS => ?_
              refine st_val hS rfl rfl (by decide) (r_move rfl (hS.ev_ rfl)) fun a hS => ?_
              obtain ⟨x44, h45, h⟩ := bindO h
              refine wl_cut 5 (fun a w => Slots 61 [] a [(0, v2), (2, Value.bool (false)), (3, Value.int .i64 (x8)), (5, v2), (6, Value.int .i64 ((p1.length : Int))), (7, Value.int .i64 (x8)), (46, Value.bool (x44))] ∧ Sat w0 w K28 (SP.blk g26 47 [strV (e16.f_Var), strV (e16.f_Lit)] :: L)) ?_ ?_
              ·
                skip
                rcases ifB h45 with ⟨hc46, h45⟩ | ⟨hc46, h45⟩
                ·
                  replace hS := hS.known (k := 41) rfl hc46
                  refine st_want hS rfl rfl rfl rfl rfl (by decide) (r_fld_b rfl fo_47_1 (hS.ev_ rfl)) fun a hS => ?_
                  refine st_want hS rfl rfl rfl rfl rfl (by decide) (r_ld1_b rfl ag_9 (hS.ev_ rfl) rfl (Rd.of hM)) fun a hS => ?_
                  refine st_want hS rfl rfl rfl rfl rfl (by decide) (r_len_str rfl un_9 (hS.ev_ rfl)) fun a hS => ?_
                  refine st_want hS rfl rfl rfl rfl rfl (by decide) (r_cmp rfl (hS.ev_ rfl) (hS.ev_ rfl) rfl) fun a hS => ?_
                  refine st_val hS rfl rfl (by decide) (r_pick_true rfl (hS.ev_ rfl) rfl (hS.ev_ rfl)) fun a hS => ?_
                  refine st_done ?_
                  replace hS : Slots 61 [] a [(46, Value.bool (decide (((e16.f_Lit.length : Int)) > 0))), (0, v2), (2, Value.bool (false)), (3, Value.int .i64 (x8)), (5, v2), (6, Value.int .i64 ((p1.length : Int))), (7, Value.int .i64 (x8))] := (hS.part (.cons rfl (.cons rfl (.cons rfl (.cons rfl (.cons rfl (.cons rfl (.cons rfl (.nil _)))))))))
                  refine x_then ?_
                  obtain rfl := Option.some.inj h45
                  exact ⟨(hS.part (.cons rfl (.cons rfl (.cons rfl (.cons rfl (.cons rfl (.cons rfl (.cons rfl (.nil _))))))))), hM⟩
                ·
                  replace hS := hS.known (k := 41) rfl hc46
                  refine st_off hS rfl rfl rfl rfl rfl rfl (by decide) fun a hS => ?_
                  refine st_off hS rfl rfl rfl rfl rfl rfl (by decide) fun a hS => ?_
                  refine st_off hS rfl rfl rfl rfl rfl rfl (by decide) fun a hS => ?_
                  refine st_off hS rfl rfl rfl rfl rfl rfl (by decide) fun a hS => ?_
                  refine st_val hS rfl rfl (by decide) (r_pick_false rfl (hS.ev_ rfl) rfl (hS.ev_ rfl)) fun a hS => ?_
                  refine st_done ?_
                  replace hS : Slots 61 [] a [(46, Value.bool (false)), (0, v2), (2, Value.bool (false)), (3, Value.int .i64 (x8)), (5, v2), (6, Value.int .i64 ((p1.length : Int))), (7, Value.int .i64 (x8))] := (hS.part (.cons rfl (.cons rfl (.cons rfl (.cons rfl (.cons rfl (.cons rfl (.cons rfl (.nil _)))))))))
                  refine x_then ?_
                  obtain rfl := Option.some.inj h45
                  exact ⟨(hS.part (.cons rfl (.cons rfl (.cons rfl (.cons rfl (.cons rfl (.cons rfl (.cons rfl (.nil _))))))))), hM⟩
              · rintro a w ⟨hS, hM⟩
                refine st_val hS rfl rfl (by decide) (r_move rfl (hS.ev_ rfl)) fun a hS => ?_
                obtain ⟨x47, h48, h⟩ := bindO h
                refine wl_cut 9 (fun a w => Slots 61 [] a [(0, v2), (2, Value.bool (false)), (5, v2), (6, Value.int .i64 ((p1.length : Int))), (7, Value.int .i64 (x8)), (56, Value.bool (x47))] ∧ Sat w0 w K28 (SP.blk g26 47 [strV (e16.f_Var), strV (e16.f_Lit)] :: L)) ?_ ?_
                ·
                  skip
                  rcases ifB h48 with ⟨hc49, h48⟩ | ⟨hc49, h48⟩
                  ·
                    replace hS := hS.known (k := 47) rfl hc49
                    refine st_want hS rfl rfl rfl rfl rfl (by decide) (r_move rfl (hS.ev_ rfl)) fun a hS => ?_
                    refine st_want hS rfl rfl rfl rfl rfl (by decide) (r_move rfl (hS.ev_ rfl)) fun a hS => ?_
                    refine st_want hS rfl rfl rfl rfl rfl (by decide) (r_sub rfl (hS.ev_ rfl) (hS.ev_ rfl)) fun a hS => ?_
                    obtain ⟨e50, h51, h48⟩ := bindO h48
                    obtain ⟨ad52, cp53, cs54, hv55, hr56, h0_57, h1_58, hq59⟩ := sl_at f3 h51 (by decide)
                    obtain rfl := kR_Piece_open hr56
                    refine st_want hS rfl rfl rfl rfl rfl (by decide) (r_idx_sl rfl un_27 ti_47 (hS.ev_ rfl) hv55 (hS.ev_ rfl) h0_57 h1_58) fun a hS => ?_
                    refine st_want hS rfl rfl rfl rfl rfl (by decide) (r_fld_k rfl fo_47_1 (hS.ev_ rfl)) fun a hS => ?_
                    refine st_want hS rfl rfl rfl rfl rfl (by decide) (r_ld1_k rfl ag_9 (hS.ev_ rfl) hq59 rfl (Rd.up (hlK7.trans hlK28) hM.nil_)) fun a hS => ?_
                    refine st_want hS rfl rfl rfl rfl rfl (by decide) (r_len_str rfl un_9 (hS.ev_ rfl)) fun a hS => ?_
                    refine st_want hS rfl rfl rfl rfl rfl (by decide) (r_cmp rfl (hS.ev_ rfl) (hS.ev_ rfl) rfl) fun a hS => ?_
                    refine st_val hS rfl rfl (by decide) (r_pick_true rfl (hS.ev_ rfl) rfl (hS.ev_ rfl)) fun a hS => ?_
                    refine st_done ?_
                    replace hS : Slots 61 [] a [(56, Value.bool (decide (((e50.f_Lit.length : Int)) > 0))), (0, v2), (2, Value.bool (false)), (5, v2), (6, Value.int .i64 ((p1.length : Int))), (7, Value.int .i64 (x8))] := (hS.part (.cons rfl (.cons rfl (.cons rfl (.cons rfl (.cons rfl (.cons rfl (.nil _))))))))
                    refine x_then ?_
                    obtain rfl := Option.some.inj h48
                    exact ⟨(hS.part (.cons rfl (.cons rfl (.cons rfl (.cons rfl (.cons rfl (.cons rfl (.nil _)))))))), hM⟩
                  ·
                    replace hS := hS.known (k := 47) rfl hc49
                    refine st_off hS rfl rfl rfl rfl rfl rfl (by decide) fun a hS => ?_
                    refine st_off hS rfl rfl rfl rfl rfl rfl (by decide) fun a hS => ?_
                    refine st_off hS rfl rfl rfl rfl rfl rfl (by decide) fun a hS => ?_
                    refine st_off hS rfl rfl rfl rfl rfl rfl (by decide) fun a hS => ?_
                    refine st_off hS rfl rfl rfl rfl rfl rfl (by decide) fun a hS => ?_
                    refine st_off hS rfl rfl rfl rfl rfl rfl (by decide) fun a hS => ?_
                    refine st_off hS rfl rfl rfl rfl rfl rfl (by decide) fun a hS => ?_
                    refine st_off hS rfl rfl rfl rfl rfl rfl (by decide) fun a hS => ?_
                    refine st_val hS rfl rfl (by decide) (r_pick_false rfl (hS.ev_ rfl) rfl (hS.ev_ rfl)) fun a hS => ?_
                    refine st_done ?_
                    replace hS : Slots 61 [] a [(56, Value.bool (false)), (0, v2), (2, Value.bool (false)), (5, v2), (6, Value.int .i64 ((p1.length : Int))), (7, Value.int .i64 (x8))] := (hS.part (.cons rfl (.cons rfl (.cons rfl (.cons rfl (.cons rfl (.cons rfl (.nil _))))))))
                    refine x_then ?_
                    obtain rfl := Option.some.inj h48
                    exact ⟨(hS.part (.cons rfl (.cons rfl (.cons rfl (.cons rfl (.cons rfl (.cons rfl (.nil _)))))))), hM⟩
                · rintro a w ⟨hS, hM⟩
                  refine st_done ?_
                  replace hS : Slots 61 [] a [(0, v2), (2, Value.bool (false)), (5, v2), (6, Value.int .i64 ((p1.length : Int))), (7, Value.int .i64 (x8)), (56, Value.bool (x47))] := (hS.part (.cons rfl (.cons rfl (.cons rfl (.cons rfl (.cons rfl (.cons rfl (.nil _))))))))
                  refine x_then ?_
                  rcases ifB h with ⟨hc60, h⟩ | ⟨hc60, h⟩
                  · refine c_cond_true (hS.ev_ rfl) hc60 ?_
                    refine wp_seq ?_
                    refine wp_region_lit ?_
                    refine st_val hS rfl rfl (by decide) (r_assign rfl (hS.ev_ rfl)) fun a hS => ?_
                    refine st_done ?_
                    replace hS : Slots 61 [] a [(2, Value.bool (false)), (0, v2), (5, v2), (6, Value.int .i64 ((p1.length : Int))), (7, Value.int .i64 (x8))] := (hS.part (.cons rfl (.cons rfl (.cons rfl (.cons rfl (.cons rfl (.nil _)))))))
                    refine x_then ?_
                    refine wp_ret ?_
                    refine x_block_ret ?_
                    refine x_then_ret ?_
                    refine x_then_ret ?_
                    have ho' := (Option.some.inj h).trans hr
                    refine hQ _ _ _ ?_
                    exact .inr (⟨rfl, K28, (()), (hlK7.trans hlK28), ho'.symm, (hS.part (.cons rfl (.nil _))), (hM).tail⟩)
                  · refine c_cond_false (hS.ev_ rfl) hc60 ?_
                    refine wp_skip ?_
                    refine x_block ?_
                    refine x_then ?_
                    refine wp_region_lit ?_
                    refine st_val hS rfl rfl (by decide) (r_add rfl (hS.ev_ rfl) (hS.ev_ rfl)) fun a hS => ?_
                    refine st_val hS rfl rfl (by decide) (r_move rfl (hS.ev_ rfl)) fun a hS => ?_
                    refine st_done ?_
                    replace hS : Slots 61 [] a [(7, Value.int .i64 (w64 (x8 + 1))), (0, v2), (2, Value.bool (false)), (5, v2), (6, Value.int .i64 ((p1.length : Int)))] := (hS.part (.cons rfl (.cons rfl (.cons rfl (.cons rfl (.cons rfl (.nil _)))))))
                    refine x_then ?_
                    exact ih (w64 (x8 + 1)) _ h hr K28 _ _ (hlK7.trans hlK28) (hS.part (.cons rfl (.cons rfl (.cons rfl (.cons rfl (.cons rfl (.nil _))))))) ((hM).tail)
      · refine c_cond_false (hS.ev_ rfl) hc15 ?_
        refine wp_exit ?_
        refine x_then_exit ?_
        refine x_then_exit ?_
        have ho' := (Option.some.inj h).trans hr
        refine hQ _ _ _ ?_
        exact .inl ⟨rfl, K7, (()), hlK7, ho'.symm, (hS.part (.cons rfl (.cons rfl (.nil _)))), hM⟩
    exact key 0 _ h10 rfl K _ _ (Hp.le.refl _) (hS.part (.cons rfl (.cons rfl (.cons rfl (.cons rfl (.cons rfl (.nil _))))))) (hM)
  · rintro e a w (⟨rfl, K11, x12, hlK11, ho', hS, hM⟩ | ⟨rfl, K13, x14, hlK13, ho', hS, hM⟩)
    · subst ho'
      dsimp only at h
      refine x_block_here ?_
      refine x_then ?_
      refine wp_seq ?_
      refine wp_region_lit ?_
      refine st_val hS rfl rfl (by decide) (r_move rfl (hS.ev_ rfl)) fun a hS => ?_
      refine st_val hS rfl rfl (by decide) (r_len_sl rfl un_27 (hS.ev_ rfl) f3) fun a hS => ?_
      refine st_val hS rfl rfl (by decide) (r_cmp rfl (hS.ev_ rfl) (hS.ev_ rfl) rfl) fun a hS => ?_
      refine st_val hS rfl rfl (by decide) (r_assign rfl (hS.ev_ rfl)) fun a hS => ?_
      refine st_done ?_
      replace hS : Slots 61 [] a [(2, Value.bool (decide (((p1.length : Int)) ≤ 40)))] := (hS.part (.cons rfl (.nil _)))
      refine x_then ?_
      refine wp_ret ?_
      have hr' := Option.some.inj h
      subst hr'
      refine ret1 (.inr rfl) hS rfl rfl ?_
      exact ⟨K11, hlK11, hM, rfl⟩
    · subst ho'
      dsimp only at h
      refine x_block_ret ?_
      refine x_then_ret ?_
      have hr' := Option.some.inj h
      subst hr'
      refine ret1 (.inr rfl) hS rfl rfl ?_
      exact ⟨K13, hlK13, hM, rfl⟩

theorem R_Quote_c {w0 w : World} {K : Hp} {L : List SP} {p1 : List R_Piece} {v2 : Value} {r : List UInt8} (hG : Glob w0) (h : R_Quote p1 = some r) (f3 : kR_Piece.sl K v2 p1) (hM : Sat w0 w K (L)) :
    Calls Tryd.prog 9 #[v2] w (fun e w' => ∃ (K' : Hp), Hp.le K K' ∧ Sat w0 w' K' (L) ∧ e = .returned (strV (r))) := by
  refine enter_ (n := 133) (args := [v2]) Tryd.func9 rfl rfl (Nat.le_of_ble_eq_true rfl) fun a hS => ?_
  replace hS : Slots 133 [] a [(0, v2)] := hS
  unfold R_Quote at h
  refine wp_seq ?_
  refine wp_region_lit ?_
  refine st_val hS rfl rfl (by decide) (r_assign rfl (hS.ev_ (v := strV (([] : List UInt8))) rfl)) fun a hS => ?_
  refine st_done ?_
  replace hS : Slots 133 [] a [(2, strV (([] : List UInt8))), (0, v2)] := (hS.part (.cons rfl (.cons rfl (.nil _))))
  refine x_then ?_
  refine wp_seq ?_
  refine wp_region_lit ?_
  refine st_val hS rfl rfl (by decide) (r_assign rfl (hS.ev_ (v := strV (([34] : List UInt8))) rfl)) fun a hS => ?_
  refine st_done ?_
  replace hS : Slots 133 [] a [(3, strV (([34] : List UInt8))), (2, strV (([] : List UInt8))), (0, v2)] := (hS.part (.cons rfl (.cons rfl (.cons rfl (.nil _)))))
  refine x_then ?_
  refine wp_seq ?_
  refine wp_seq ?_
  refine wp_region_lit ?_
  refine st_val hS rfl rfl (by decide) (r_move rfl (hS.ev_ rfl)) fun a hS => ?_
  refine st_val hS rfl rfl (by decide) (r_len_sl rfl un_27 (hS.ev_ rfl) f3) fun a hS => ?_
  refine st_val hS rfl rfl (by decide) (r_move rfl (hS.ev_ rfl)) fun a hS => ?_
  refine st_done ?_
  replace hS : Slots 133 [] a [(11, Value.int .i64 (0)), (10, Value.int .i64 ((p1.length : Int))), (9, v2), (3, strV (([34] : List UInt8))), (2, strV (([] : List UInt8))), (0, v2)] := (hS.part (.cons rfl (.cons rfl (.cons rfl (.cons rfl (.cons rfl (.cons rfl (.nil _))))))))
  refine x_then ?_
  refine wp_block ?_
  obtain ⟨o11, h12, h⟩ := bindO h
  refine c_loop_ways (fun e a w => (e = .exit 0 ∧ ∃ (K13 : Hp), Hp.le K K13 ∧ Slots 133 [] a [(2, strV (([] : List UInt8))), (3, strV (o11))] ∧ Sat w0 w K13 (L))) ?_ ?_
  · intro c Q hc hQ
    have key : ∀ (x9 : Int) (x10 : List UInt8) (r' : List UInt8), R_Quote_l1 p1 x9 x10 = some r' → r' = o11 → ∀ (K8 : Hp) (a : Act) (w : World), Hp.le K K8 → Slots 133 [] a [(11, Value.int .i64 (x9)), (10, Value.int .i64 ((p1.length : Int))), (9, v2), (3, strV (x10)), (2, strV (([] : List UInt8))), (0, v2)] → Sat w0 w K8 (L) → Rnd Tryd.prog c Q a w := by
      refine R_Quote_l1.partial_correctness p1 _ ?_
      intro R_Quote_l1_rec ih x9 x10 r' h hr K8  a w hlK8 hS hM 
      subst hc
      refine c_round ?_
      refine wp_seq ?_
      refine wp_region_lit ?_
      refine st_val hS rfl rfl (by decide) (r_cmp rfl (hS.ev_ rfl) (hS.ev_ rfl) rfl) fun a hS => ?_
      refine st_done ?_
      replace hS : Slots 133 [] a [(12, Value.bool (decide (x9 < ((p1.length : Int))))), (11, Value.int .i64 (x9)), (10, Value.int .i64 ((p1.length : Int))), (9, v2), (3, strV (x10)), (2, strV (([] : List UInt8))), (0, v2)] := (hS.part (.cons rfl (.cons rfl (.cons rfl (.cons rfl (.cons rfl (.cons rfl (.cons rfl (.nil _)))))))))
      refine x_then ?_
      refine wp_seq ?_
      rcases ifB h with ⟨hc14, h⟩ | ⟨hc14, h⟩
      · refine c_cond_true (hS.ev_ rfl) hc14 ?_
        refine wp_skip ?_
        refine x_then ?_
        obtain ⟨x16, h17, h⟩ := bindO h
        refine c_cut (fun a w => ∃ (K15 : Hp), Hp.le K8 K15 ∧ Slots 133 [] a [(0, v2), (2, strV (([] : List UInt8))), (9, v2), (10, Value.int .i64 ((p1.length : Int))), (11, Value.int .i64 (x9)), (3, strV (x16))] ∧ Sat w0 w K15 (L)) ?_ ?_
        ·
          refine wp_block ?_
          refine wp_seq ?_
          refine wp_region_lit ?_
          refine st_val hS rfl rfl (by decide) (r_move rfl (hS.ev_ rfl)) fun a hS => ?_
          obtain ⟨e18, h19, h17⟩ := bindO h17
          obtain ⟨ad20, cp21, cs22, hv23, hr24, h0_25, h1_26, hq27⟩ := sl_at f3 h19 (by decide)
          obtain rfl := kR_Piece_open hr24
          refine st_val hS rfl rfl (by decide) (r_idx_sl rfl un_27 ti_47 (hS.ev_ rfl) hv23 (hS.ev_ rfl) h0_25 h1_26) fun a hS => ?_
          refine st_val hS rfl rfl (by decide) (r_ldN_k (cs' := [strV (e18.f_Var), strV (e18.f_Lit)]) rfl ag_47 ti_47 (hS.ev_ rfl) hq27 rfl (Rd.up hlK8 hM.nil_)) fun a hS => ?_
          refine wl_cons rfl (e_alloc (cs := [strV (([] : List UInt8)), strV (([] : List UInt8))]) hM rfl ti_47 rfl fun g28 w hM => ?_)
          refine pl hS rfl (by decide) fun a hS => ?_
          refine st_val hS rfl rfl (by decide) (r_assign rfl (hS.ev_ rfl)) fun a hS => ?_
          refine wl_cons rfl (e_storeN (vs := [strV (e18.f_Var), strV (e18.f_Lit)]) hM rfl ti_47 (hS.ev_ rfl) (hS.ev_ rfl) (ones_cons rfl (ones_cons rfl ones_nil)) (Nat.le_of_ble_eq_true rfl) fun w hM => ?_)
          have hM : Sat w0 w K8 (SP.blk g28 47 [strV (e18.f_Var), strV (e18.f_Lit)] :: L) := hM
          refine pl0 hS rfl fun a hS => ?_
          refine st_done ?_
          replace hS : Slots 133 [] a [(4, Value.int .i64 (x9)), (5, Value.pointer (some ⟨g28, 0, none⟩)), (11, Value.int .i64 (x9)), (10, Value.int .i64 ((p1.length : Int))), (9, v2), (3, strV (x10)), (2, strV (([] : List UInt8))), (0, v2)] := (hS.part (.cons rfl (.cons rfl (.cons rfl (.cons rfl (.cons rfl (.cons rfl (.cons rfl (.cons rfl (.nil _))))))))))
          refine x_then ?_
          refine wp_seq ?_
          refine wp_seq ?_
          refine wp_region_lit ?_
          refine st_val hS rfl rfl (by decide) (r_fld_b rfl fo_47_0 (hS.ev_ rfl)) fun a hS => ?_
          refine st_val hS rfl rfl (by decide) (r_ld1_b rfl ag_9 (hS.ev_ rfl) rfl (Rd.of hM)) fun a hS => ?_
          refine st_val hS rfl rfl (by decide) (r_len_str rfl un_9 (hS.ev_ rfl)) fun a hS => ?_
          refine st_val hS rfl rfl (by decide) (r_cmp rfl (hS.ev_ rfl) (hS.ev_ rfl) rfl) fun a hS => ?_
          refine st_done ?_
          replace hS : Slots 133 [] a [(19, Value.bool (decide (((e18.f_Var.length : Int)) > 0))), (4, Value.int .i64 (x9)), (5, Value.pointer (some ⟨g28, 0, none⟩)), (11, Value.int .i64 (x9)), (10, Value.int .i64 ((p1.length : Int))), (9, v2), (3, strV (x10)), (2, strV (([] : List UInt8))), (0, v2)] := (hS.part (.cons rfl (.cons rfl (.cons rfl (.cons rfl (.cons rfl (.cons rfl (.cons rfl (.cons rfl (.cons rfl (.nil _)))))))))))
          refine x_then ?_
          rcases ifB h17 with ⟨hc30, h17⟩ | ⟨hc30, h17⟩
          · refine c_cond_true (hS.ev_ rfl) hc30 ?_
            refine wp_seq ?_
            refine wp_region_lit ?_
            refine st_val hS rfl rfl (by decide) (r_move rfl (hS.ev_ rfl)) fun a hS => ?_
            refine st_val hS rfl rfl (by decide) (r_fld_b rfl fo_47_0 (hS.ev_ rfl)) fun a hS => ?_
            refine st_val hS rfl rfl (by decide) (r_ld1_b rfl ag_9 (hS.ev_ rfl) rfl (Rd.of hM)) fun a hS => ?_
            obtain ⟨h31, h17⟩ := bindU h17
            refine st_val hS rfl rfl (by decide) (r_sadd rfl (hS.ev_ (v := strV (([36] : List UInt8))) rfl) (hS.ev_ rfl) (req_some h31)) fun a hS => ?_
            obtain ⟨h32, h17⟩ := bindU h17
            refine st_val hS rfl rfl (by decide) (r_sadd rfl (hS.ev_ rfl) (hS.ev_ rfl) (req_some h32)) fun a hS => ?_
            refine st_val hS rfl rfl (by decide) (r_assign rfl (hS.ev_ rfl)) fun a hS => ?_
            refine st_done ?_
            replace hS : Slots 133 [] a [(3, strV (x10 ++ (([36] : List UInt8) ++ e18.f_Var))), (4, Value.int .i64 (x9)), (5, Value.pointer (some ⟨g28, 0, none⟩)), (11, Value.int .i64 (x9)), (10, Value.int .i64 ((p1.length : Int))), (9, v2), (2, strV (([] : List UInt8))), (0, v2)] := (hS.part (.cons rfl (.cons rfl (.cons rfl (.cons rfl (.cons rfl (.cons rfl (.cons rfl (.cons rfl (.nil _))))))))))
            refine x_then ?_
            refine wp_exit ?_
            refine x_then_exit ?_
            refine x_block_here ?_
            refine x_then ?_
            obtain rfl := Option.some.inj h17
            exact ⟨K8, (Hp.le.refl _), (hS.part (.cons rfl (.cons rfl (.cons rfl (.cons rfl (.cons rfl (.cons rfl (.nil _)))))))), (hM).tail⟩
          · refine c_cond_false (hS.ev_ rfl) hc30 ?_
            refine wp_skip ?_
            refine x_then ?_
            refine wp_seq ?_
            refine wp_region_lit ?_
            refine st_val hS rfl rfl (by decide) (r_assign rfl (hS.ev_ rfl)) fun a hS => ?_
            refine st_done ?_
            replace hS : Slots 133 [] a [(6, Value.int .i64 (0)), (4, Value.int .i64 (x9)), (5, Value.pointer (some ⟨g28, 0, none⟩)), (11, Value.int .i64 (x9)), (10, Value.int .i64 ((p1.length : Int))), (9, v2), (3, strV (x10)), (2, strV (([] : List UInt8))), (0, v2)] := (hS.part (.cons rfl (.cons rfl (.cons rfl (.cons rfl (.cons rfl (.cons rfl (.cons rfl (.cons rfl (.cons rfl (.nil _)))))))))))
            refine x_then ?_
            refine wp_block ?_
            obtain ⟨o40, h41, h17⟩ := bindO h17
            refine c_loop_ways (fun e a w => (e = .exit 2 ∧ ∃ (K42 : Hp), Hp.le K8 K42 ∧ Slots 133 [] a [(0, v2), (2, strV (([] : List UInt8))), (9, v2), (10, Value.int .i64 ((p1.length : Int))), (11, Value.int .i64 (x9)), (3, strV (o40))] ∧ Sat w0 w K42 (SP.blk g28 47 [strV (e18.f_Var), strV (e18.f_Lit)] :: L))) ?_ ?_
            · intro c Q hc hQ
              have key : ∀ (x38 : Int) (x39 : List UInt8) (r' : List UInt8), R_Quote_l2 e18 x9 p1 x38 x39 = some r' → r' = o40 → ∀ (K37 : Hp) (a : Act) (w : World), Hp.le K8 K37 → Slots 133 [] a [(6, Value.int .i64 (x38)), (4, Value.int .i64 (x9)), (5, Value.pointer (some ⟨g28, 0, none⟩)), (11, Value.int .i64 (x9)), (10, Value.int .i64 ((p1.length : Int))), (9, v2), (3, strV (x39)), (2, strV (([] : List UInt8))), (0, v2)] → Sat w0 w K37 (SP.blk g28 47 [strV (e18.f_Var), strV (e18.f_Lit)] :: L) → Rnd Tryd.prog c Q a w := by
                refine R_Quote_l2.partial_correctness e18 x9 p1 _ ?_
                intro R_Quote_l2_rec ih x38 x39 r' h hr K37  a w hlK37 hS hM 
                subst hc
                refine c_round ?_
                refine wp_seq ?_
                refine wp_seq ?_
                refine wp_region_lit ?_
                refine st_val hS rfl rfl (by decide) (r_move rfl (hS.ev_ rfl)) fun a hS => ?_
                refine st_val hS rfl rfl (by decide) (r_fld_b rfl fo_47_1 (hS.ev_ rfl)) fun a hS => ?_
                refine st_val hS rfl rfl (by decide) (r_ld1_b rfl ag_9 (hS.ev_ rfl) rfl (Rd.of hM)) fun a hS => ?_
                refine st_val hS rfl rfl (by decide) (r_len_str rfl un_9 (hS.ev_ rfl)) fun a hS => ?_
                refine st_val hS rfl rfl (by decide) (r_cmp rfl (hS.ev_ rfl) (hS.ev_ rfl) rfl) fun a hS => ?_
                refine st_done ?_
                replace hS : Slots 133 [] a [(29, Value.bool (decide (x38 < ((e18.f_Lit.length : Int))))), (6, Value.int .i64 (x38)), (4, Value.int .i64 (x9)), (5, Value.pointer (some ⟨g28, 0, none⟩)), (11, Value.int .i64 (x9)), (10, Value.int .i64 ((p1.length : Int))), (9, v2), (3, strV (x39)), (2, strV (([] : List UInt8))), (0, v2)] := (hS.part (.cons rfl (.cons rfl (.cons rfl (.cons rfl (.cons rfl (.cons rfl (.cons rfl (.cons rfl (.cons rfl (.cons rfl (.nil _))))))))))))
                refine x_then ?_
                rcases ifB h with ⟨hc43, h⟩ | ⟨hc43, h⟩
                · refine c_cond_true (hS.ev_ rfl) hc43 ?_
                  refine wp_skip ?_
                  refine x_then ?_
                  obtain ⟨x45, h46, h⟩ := bindO h
                  refine c_cut (fun a w => ∃ (K44 : Hp), Hp.le K37 K44 ∧ Slots 133 [] a [(0, v2), (2, strV (([] : List UInt8))), (4, Value.int .i64 (x9)), (5, Value.pointer (some ⟨g28, 0, none⟩)), (6, Value.int .i64 (x38)), (9, v2), (10, Value.int .i64 ((p1.length : Int))), (11, Value.int .i64 (x9)), (3, strV (x45))] ∧ Sat w0 w K44 (SP.blk g28 47 [strV (e18.f_Var), strV (e18.f_Lit)] :: L)) ?_ ?_
                  ·
                    refine wp_block ?_
                    refine wp_seq ?_
                    refine wp_region_lit ?_
                    refine st_val hS rfl rfl (by decide) (r_fld_b rfl fo_47_1 (hS.ev_ rfl)) fun a hS => ?_
                    refine st_val hS rfl rfl (by decide) (r_ld1_b rfl ag_9 (hS.ev_ rfl) rfl (Rd.of hM)) fun a hS => ?_
                    refine st_val hS rfl rfl (by decide) (r_move rfl (hS.ev_ rfl)) fun a hS => ?_
                    obtain ⟨c47, h48, h46⟩ := bindO h46
                    refine st_val hS rfl rfl (by decide) (r_index_s rfl un_9 (hS.ev_ rfl) (hS.ev_ rfl) h48) fun a hS => ?_
                    refine st_val hS rfl rfl (by decide) (r_assign rfl (hS.ev_ rfl)) fun a hS => ?_
                    refine st_done ?_
                    replace hS : Slots 133 [] a [(7, Value.int .u8 (b8 (c47))), (6, Value.int .i64 (x38)), (4, Value.int .i64 (x9)), (5, Value.pointer (some ⟨g28, 0, none⟩)), (11, Value.int .i64 (x9)), (10, Value.int .i64 ((p1.length : Int))), (9, v2), (3, strV (x39)), (2, strV (([] : List UInt8))), (0, v2)] := (hS.part (.cons rfl (.cons rfl (.cons rfl (.cons rfl (.cons rfl (.cons rfl (.cons rfl (.cons rfl (.cons rfl (.cons rfl (.nil _))))))))))))
                    refine x_then ?_
                    refine wp_seq ?_
                    refine wp_region_lit ?_
                    refine st_val hS rfl rfl (by decide) (r_move rfl (hS.ev_ rfl)) fun a hS => ?_
                    refine st_val hS rfl rfl (by decide) (r_cmp rfl (hS.ev_ rfl) (hS.ev_ rfl) rfl) fun a hS => ?_
                    refine st_val hS rfl rfl (by decide) (r_move rfl (hS.ev_ rfl)) fun a hS => ?_
                    obtain ⟨x49, h50, h46⟩ := bindO h46
                    refine wl_cut 3 (fun a w => Slots 133 [] a [(0, v2), (2, strV (([] : List UInt8))), (3, strV (x39)), (4, Value.int .i64 (x9)), (5, Value.pointer (some ⟨g28, 0, none⟩)), (6, Value.int .i64 (x38)), (7, Value.int .u8 (b8 (c47))), (9, v2), (10, Value.int .i64 ((p1.length : Int))), (11, Value.int .i64 (x9)), (41, Value.bool (x49))] ∧ Sat w0 w K37 (SP.blk g28 47 [strV (e18.f_Var), strV (e18.f_Lit)] :: L)) ?_ ?_
                    ·
                      skip
                      rcases ifB h50 with ⟨hc51, h50⟩ | ⟨hc51, h50⟩
                      ·
                        replace hS := hS.known (k := 38) rfl hc51
                        refine st_want hS rfl rfl rfl rfl rfl (by decide) (r_move rfl (hS.ev_ rfl)) fun a hS => ?_
                        refine st_want hS rfl rfl rfl rfl rfl (by decide) (r_cmp rfl (hS.ev_ rfl) (hS.ev_ rfl) rfl) fun a hS => ?_
                        refine st_val hS rfl rfl (by decide) (r_pick_true rfl (hS.ev_ rfl) rfl (hS.ev_ rfl)) fun a hS => ?_
                        refine st_done ?_
                        replace hS : Slots 133 [] a [(41, Value.bool (decide (x9 > 0))), (7, Value.int .u8 (b8 (c47))), (6, Value.int .i64 (x38)), (4, Value.int .i64 (x9)), (5, Value.pointer (some ⟨g28, 0, none⟩)), (11, Value.int .i64 (x9)), (10, Value.int .i64 ((p1.length : Int))), (9, v2), (3, strV (x39)), (2, strV (([] : List UInt8))), (0, v2)] := (hS.part (.cons rfl (.cons rfl (.cons rfl (.cons rfl (.cons rfl (.cons rfl (.cons rfl (.cons rfl (.cons rfl (.cons rfl (.cons rfl (.nil _)))))))))))))
                        refine x_then ?_
                        obtain rfl := Option.some.inj h50
                        exact ⟨(hS.part (.cons rfl (.cons rfl (.cons rfl (.cons rfl (.cons rfl (.cons rfl (.cons rfl (.cons rfl (.cons rfl (.cons rfl (.cons rfl (.nil _))))))))))))), hM⟩
                      ·
                        replace hS := hS.known (k := 38) rfl hc51
                        refine st_off hS rfl rfl rfl rfl rfl rfl (by decide) fun a hS => ?_
                        refine st_off hS rfl rfl rfl rfl rfl rfl (by decide) fun a hS => ?_
                        refine st_val hS rfl rfl (by decide) (r_pick_false rfl (hS.ev_ rfl) rfl (hS.ev_ rfl)) fun a hS => ?_
                        refine st_done ?_
                        replace hS : Slots 133 [] a [(41, Value.bool (false)), (7, Value.int .u8 (b8 (c47))), (6, Value.int .i64 (x38)), (4, Value.int .i64 (x9)), (5, Value.pointer (some ⟨g28, 0, none⟩)), (11, Value.int .i64 (x9)), (10, Value.int .i64 ((p1.length : Int))), (9, v2), (3, strV (x39)), (2, strV (([] : List UInt8))), (0, v2)] := (hS.part (.cons rfl (.cons rfl (.cons rfl (.cons rfl (.cons rfl (.cons rfl (.cons rfl (.cons rfl (.cons rfl (.cons rfl (.cons rfl (.nil _)))))))))))))
                        refine x_then ?_
                        obtain rfl := Option.some.inj h50
                        exact ⟨(hS.part (.cons rfl (.cons rfl (.cons rfl (.cons rfl (.cons rfl (.cons rfl (.cons rfl (.cons rfl (.cons rfl (.cons rfl (.cons rfl (.nil _))))))))))))), hM⟩
                    · rintro a w ⟨hS, hM⟩
                      refine st_val hS rfl rfl (by decide) (r_move rfl (hS.ev_ rfl)) fun a hS => ?_
                      obtain ⟨x53, h54, h46⟩ := bindO h46
                      refine wl_cut 9 (fun a w => ∃ (K52 : Hp), Hp.le K37 K52 ∧ Slots 133 [] a [(0, v2), (2, strV (([] : List UInt8))), (3, strV (x39)), (4, Value.int .i64 (x9)), (5, Value.pointer (some ⟨g28, 0, none⟩)), (6, Value.int .i64 (x38)), (7, Value.int .u8 (b8 (c47))), (9, v2), (10, Value.int .i64 ((p1.length : Int))), (11, Value.int .i64 (x9)), (51, Value.bool (x53))] ∧ Sat w0 w K52 (SP.blk g28 47 [strV (e18.f_Var), strV (e18.f_Lit)] :: L)) ?_ ?_
                      ·
                        skip
                        rcases ifB h54 with ⟨hc55, h54⟩ | ⟨hc55, h54⟩
                        ·
                          replace hS := hS.known (k := 42) rfl hc55
                          refine st_want hS rfl rfl rfl rfl rfl (by decide) (r_move rfl (hS.ev_ rfl)) fun a hS => ?_
                          refine st_want hS rfl rfl rfl rfl rfl (by decide) (r_move rfl (hS.ev_ rfl)) fun a hS => ?_
                          refine st_want hS rfl rfl rfl rfl rfl (by decide) (r_sub rfl (hS.ev_ rfl) (hS.ev_ rfl)) fun a hS => ?_
                          obtain ⟨e56, h57, h54⟩ := bindO h54
                          obtain ⟨ad58, cp59, cs60, hv61, hr62, h0_63, h1_64, hq65⟩ := sl_at f3 h57 (by decide)
                          obtain rfl := kR_Piece_open hr62
                          refine st_want hS rfl rfl rfl rfl rfl (by decide) (r_idx_sl rfl un_27 ti_47 (hS.ev_ rfl) hv61 (hS.ev_ rfl) h0_63 h1_64) fun a hS => ?_
                          refine st_want hS rfl rfl rfl rfl rfl (by decide) (r_fld_k rfl fo_47_0 (hS.ev_ rfl)) fun a hS => ?_
                          refine st_want hS rfl rfl rfl rfl rfl (by decide) (r_ld1_k rfl ag_9 (hS.ev_ rfl) hq65 rfl (Rd.up (hlK8.trans hlK37) hM.nil_)) fun a hS => ?_
                          obtain ⟨c66, h67, h54⟩ := bindO h54
                          refine st_want hS rfl rfl rfl rfl rfl (by decide) (r_index_s rfl un_9 (hS.ev_ rfl) (hS.ev_ rfl) h67) fun a hS => ?_
                          obtain ⟨y68, h69, h54⟩ := bindO h54
                          have hc71 := R_Letter_c hG h69 hM
                          refine g_want hS rfl rfl rfl rfl (e_call rfl Tryd.func17 rfl rfl (args1 (hS.ev_ rfl)) hc71 ?_)
                          rintro _ w ⟨K70, hlK70, hM, rfl⟩
                          refine ⟨_, rfl, ?_⟩
                          refine pl hS rfl (by decide) fun a hS => ?_
                          refine st_val hS rfl rfl (by decide) (r_pick_true rfl (hS.ev_ rfl) rfl (hS.ev_ rfl)) fun a hS => ?_
                          refine st_done ?_
                          replace hS : Slots 133 [] a [(51, Value.bool (y68)), (0, v2), (2, strV (([] : List UInt8))), (3, strV (x39)), (4, Value.int .i64 (x9)), (5, Value.pointer (some ⟨g28, 0, none⟩)), (6, Value.int .i64 (x38)), (7, Value.int .u8 (b8 (c47))), (9, v2), (10, Value.int .i64 ((p1.length : Int))), (11, Value.int .i64 (x9))] := (hS.part (.cons rfl (.cons rfl (.cons rfl (.cons rfl (.cons rfl (.cons rfl (.cons rfl (.cons rfl (.cons rfl (.cons rfl (.cons rfl (.nil _)))))))))))))
                          refine x_then ?_
                          obtain rfl := Option.some.inj h54
                          exact ⟨K70, hlK70, (hS.part (.cons rfl (.cons rfl (.cons rfl (.cons rfl (.cons rfl (.cons rfl (.cons rfl (.cons rfl (.cons rfl (.cons rfl (.cons rfl (.nil _))))))))))))), hM⟩
                        ·
                          replace hS := hS.known (k := 42) rfl hc55
                          refine st_off hS rfl rfl rfl rfl rfl rfl (by decide) fun a hS => ?_
                          refine st_off hS rfl rfl rfl rfl rfl rfl (by decide) fun a hS => ?_
                          refine st_off hS rfl rfl rfl rfl rfl rfl (by decide) fun a hS => ?_
                          refine st_off hS rfl rfl rfl rfl rfl rfl (by decide) fun a hS => ?_
                          refine st_off hS rfl rfl rfl rfl rfl rfl (by decide) fun a hS => ?_
                          refine st_off hS rfl rfl rfl rfl rfl rfl (by decide) fun a hS => ?_
                          refine st_off hS rfl rfl rfl rfl rfl rfl (by decide) fun a hS => ?_
                          refine st_off hS rfl rfl rfl rfl rfl rfl (by decide) fun a hS => ?_
                          refine st_val hS rfl rfl (by decide) (r_pick_false rfl (hS.ev_ rfl) rfl (hS.ev_ rfl)) fun a hS => ?_
                          refine st_done ?_
                          replace hS : Slots 133 [] a [(51, Value.bool (false)), (0, v2), (2, strV (([] : List UInt8))), (3, strV (x39)), (4, Value.int .i64 (x9)), (5, Value.pointer (some ⟨g28, 0, none⟩)), (6, Value.int .i64 (x38)), (7, Value.int .u8 (b8 (c47))), (9, v2), (10, Value.int .i64 ((p1.length : Int))), (11, Value.int .i64 (x9))] := (hS.part (.cons rfl (.cons rfl (.cons rfl (.cons rfl (.cons rfl (.cons rfl (.cons rfl (.cons rfl (.cons rfl (.cons rfl (.cons rfl (.nil _)))))))))))))
                          refine x_then ?_
                          obtain rfl := Option.some.inj h54
                          exact ⟨K37, (Hp.le.refl _), (hS.part (.cons rfl (.cons rfl (.cons rfl (.cons rfl (.cons rfl (.cons rfl (.cons rfl (.cons rfl (.cons rfl (.cons rfl (.cons rfl (.nil _))))))))))))), hM⟩
                      · rintro a w ⟨K52, hlK52, hS, hM⟩
                        refine st_val hS rfl rfl (by decide) (r_move rfl (hS.ev_ rfl)) fun a hS => ?_
                        obtain ⟨x73, h74, h46⟩ := bindO h46
                        refine wl_cut 7 (fun a w => ∃ (K72 : Hp), Hp.le K52 K72 ∧ Slots 133 [] a [(0, v2), (2, strV (([] : List UInt8))), (3, strV (x39)), (4, Value.int .i64 (x9)), (5, Value.pointer (some ⟨g28, 0, none⟩)), (6, Value.int .i64 (x38)), (7, Value.int .u8 (b8 (c47))), (9, v2), (10, Value.int .i64 ((p1.length : Int))), (11, Value.int .i64 (x9)), (59, Value.bool (x73))] ∧ Sat w0 w K72 (SP.blk g28 47 [strV (e18.f_Var), strV (e18.f_Lit)] :: L)) ?_ ?_
                        ·
                          skip
                          rcases ifB h74 with ⟨hc75, h74⟩ | ⟨hc75, h74⟩
                          ·
                            replace hS := hS.known (k := 52) rfl hc75
                            refine st_want hS rfl rfl rfl rfl rfl (by decide) (r_move rfl (hS.ev_ rfl)) fun a hS => ?_
                            obtain ⟨y76, h77, h74⟩ := bindO h74
                            have hc79 := R_Letter_c hG h77 hM
                            refine g_want hS rfl rfl rfl rfl (e_call rfl Tryd.func17 rfl rfl (args1 (hS.ev_ rfl)) hc79 ?_)
                            rintro _ w ⟨K78, hlK78, hM, rfl⟩
                            refine ⟨_, rfl, ?_⟩
                            refine pl hS rfl (by decide) fun a hS => ?_
                            refine st_want hS rfl rfl rfl rfl rfl (by decide) (r_move rfl (hS.ev_ rfl)) fun a hS => ?_
                            obtain ⟨x81, h82, h74⟩ := bindO h74
                            refine wl_cut 3 (fun a w => ∃ (K80 : Hp), Hp.le K78 K80 ∧ Slots 133 [] a [(0, v2), (2, strV (([] : List UInt8))), (3, strV (x39)), (4, Value.int .i64 (x9)), (5, Value.pointer (some ⟨g28, 0, none⟩)), (6, Value.int .i64 (x38)), (7, Value.int .u8 (b8 (c47))), (9, v2), (10, Value.int .i64 ((p1.length : Int))), (11, Value.int .i64 (x9)), (52, Value.bool (true)), (58, Value.bool (x81))] ∧ Sat w0 w K80 (SP.blk g28 47 [strV (e18.f_Var), strV (e18.f_Lit)] :: L)) ?_ ?_
                            ·
                              skip
                              rcases ifB h82 with ⟨hc83, h82⟩ | ⟨hc83, h82⟩
                              ·
                                replace hS := hS.known (k := 55) rfl hc83
                                refine st_off hS rfl rfl rfl rfl rfl rfl (by decide) fun a hS => ?_
                                refine st_off hS rfl rfl rfl rfl rfl rfl (by decide) fun a hS => ?_
                                refine st_want hS rfl rfl rfl rfl rfl (by decide) (r_pick_true rfl (hS.ev_ rfl) rfl (hS.ev_ rfl)) fun a hS => ?_
                                refine st_done ?_
                                replace hS : Slots 133 [] a [(58, Value.bool (true)), (52, Value.bool (true)), (0, v2), (2, strV (([] : List UInt8))), (3, strV (x39)), (4, Value.int .i64 (x9)), (5, Value.pointer (some ⟨g28, 0, none⟩)), (6, Value.int .i64 (x38)), (7, Value.int .u8 (b8 (c47))), (9, v2), (10, Value.int .i64 ((p1.length : Int))), (11, Value.int .i64 (x9))] := (hS.part (.cons rfl (.cons rfl (.cons rfl (.cons rfl (.cons rfl (.cons rfl (.cons rfl (.cons rfl (.cons rfl (.cons rfl (.cons rfl (.cons rfl (.nil _))))))))))))))
                                refine x_then ?_
                                obtain rfl := Option.some.inj h82
                                exact ⟨K78, (Hp.le.refl _), (hS.part (.cons rfl (.cons rfl (.cons rfl (.cons rfl (.cons rfl (.cons rfl (.cons rfl (.cons rfl (.cons rfl (.cons rfl (.cons rfl (.cons rfl (.nil _)))))))))))))), hM⟩
                              ·
                                replace hS := hS.known (k := 55) rfl hc83
                                refine st_want hS rfl rfl rfl rfl rfl (by decide) (r_move rfl (hS.ev_ rfl)) fun a hS => ?_
                                obtain ⟨y84, h85, h82⟩ := bindO h82
                                have hc87 := R_Figure_c hG h85 hM
                                refine g_want hS rfl rfl rfl rfl (e_call rfl Tryd.func18 rfl rfl (args1 (hS.ev_ rfl)) hc87 ?_)
                                rintro _ w ⟨K86, hlK86, hM, rfl⟩
                                refine ⟨_, rfl, ?_⟩
                                refine pl hS rfl (by decide) fun a hS => ?_
                                refine st_want hS rfl rfl rfl rfl rfl (by decide) (r_pick_false rfl (hS.ev_ rfl) rfl (hS.ev_ rfl)) fun a hS => ?_
                                refine st_done ?_
                                replace hS : Slots 133 [] a [(58, Value.bool (y84)), (52, Value.bool (true)), (0, v2), (2, strV (([] : List UInt8))), (3, strV (x39)), (4, Value.int .i64 (x9)), (5, Value.pointer (some ⟨g28, 0, none⟩)), (6, Value.int .i64 (x38)), (7, Value.int .u8 (b8 (c47))), (9, v2), (10, Value.int .i64 ((p1.length : Int))), (11, Value.int .i64 (x9))] := (hS.part (.cons rfl (.cons rfl (.cons rfl (.cons rfl (.cons rfl (.cons rfl (.cons rfl (.cons rfl (.cons rfl (.cons rfl (.cons rfl (.cons rfl (.nil _))))))))))))))
                                refine x_then ?_
                                obtain rfl := Option.some.inj h82
                                exact ⟨K86, hlK86, (hS.part (.cons rfl (.cons rfl (.cons rfl (.cons rfl (.cons rfl (.cons rfl (.cons rfl (.cons rfl (.cons rfl (.cons rfl (.cons rfl (.cons rfl (.nil _)))))))))))))), hM⟩
                            · rintro a w ⟨K80, hlK80, hS, hM⟩
                              refine st_val hS rfl rfl (by decide) (r_pick_true rfl (hS.ev_ rfl) rfl (hS.ev_ rfl)) fun a hS => ?_
                              refine st_done ?_
                              replace hS : Slots 133 [] a [(59, Value.bool (x81)), (0, v2), (2, strV (([] : List UInt8))), (3, strV (x39)), (4, Value.int .i64 (x9)), (5, Value.pointer (some ⟨g28, 0, none⟩)), (6, Value.int .i64 (x38)), (7, Value.int .u8 (b8 (c47))), (9, v2), (10, Value.int .i64 ((p1.length : Int))), (11, Value.int .i64 (x9))] := (hS.part (.cons rfl (.cons rfl (.cons rfl (.cons rfl (.cons rfl (.cons rfl (.cons rfl (.cons rfl (.cons rfl (.cons rfl (.cons rfl (.nil _)))))))))))))
                              refine x_then ?_
                              obtain rfl := Option.some.inj h74
                              exact ⟨K80, (hlK78.trans hlK80), (hS.part (.cons rfl (.cons rfl (.cons rfl (.cons rfl (.cons rfl (.cons rfl (.cons rfl (.cons rfl (.cons rfl (.cons rfl (.cons rfl (.nil _))))))))))))), hM⟩
                          ·
                            replace hS := hS.known (k := 52) rfl hc75
                            refine st_off hS rfl rfl rfl rfl rfl rfl (by decide) fun a hS => ?_
                            refine st_off hS rfl rfl rfl rfl rfl rfl (by decide) fun a hS => ?_
                            refine st_off hS rfl rfl rfl rfl rfl rfl (by decide) fun a hS => ?_
                            refine st_off_undef hS rfl rfl rfl rfl rfl (by decide) fun a hS => ?_
                            refine st_off_undef hS rfl rfl rfl rfl rfl (by decide) fun a hS => ?_
                            refine st_off hS rfl rfl rfl rfl rfl rfl (by decide) fun a hS => ?_
                            refine st_val hS rfl rfl (by decide) (r_pick_false rfl (hS.ev_ rfl) rfl (hS.ev_ rfl)) fun a hS => ?_
                            refine st_done ?_
                            replace hS : Slots 133 [] a [(59, Value.bool (false)), (0, v2), (2, strV (([] : List UInt8))), (3, strV (x39)), (4, Value.int .i64 (x9)), (5, Value.pointer (some ⟨g28, 0, none⟩)), (6, Value.int .i64 (x38)), (7, Value.int .u8 (b8 (c47))), (9, v2), (10, Value.int .i64 ((p1.length : Int))), (11, Value.int .i64 (x9))] := (hS.part (.cons rfl (.cons rfl (.cons rfl (.cons rfl (.cons rfl (.cons rfl (.cons rfl (.cons rfl (.cons rfl (.cons rfl (.cons rfl (.nil _)))))))))))))
                            refine x_then ?_
                            obtain rfl := Option.some.inj h74
                            exact ⟨K52, (Hp.le.refl _), (hS.part (.cons rfl (.cons rfl (.cons rfl (.cons rfl (.cons rfl (.cons rfl (.cons rfl (.cons rfl (.cons rfl (.cons rfl (.cons rfl (.nil _))))))))))))), hM⟩
                        · rintro a w ⟨K72, hlK72, hS, hM⟩
                          refine st_val hS rfl rfl (by decide) (r_assign rfl (hS.ev_ rfl)) fun a hS => ?_
                          refine st_done ?_
                          replace hS : Slots 133 [] a [(8, Value.bool (x73)), (0, v2), (2, strV (([] : List UInt8))), (3, strV (x39)), (4, Value.int .i64 (x9)), (5, Value.pointer (some ⟨g28, 0, none⟩)), (6, Value.int .i64 (x38)), (7, Value.int .u8 (b8 (c47))), (9, v2), (10, Value.int .i64 ((p1.length : Int))), (11, Value.int .i64 (x9))] := (hS.part (.cons rfl (.cons rfl (.cons rfl (.cons rfl (.cons rfl (.cons rfl (.cons rfl (.cons rfl (.cons rfl (.cons rfl (.cons rfl (.nil _)))))))))))))
                          refine x_then ?_
                          refine wp_block ?_
                          refine wp_seq ?_
                          refine wp_region_lit ?_
                          refine st_val hS rfl rfl (by decide) (r_move rfl (hS.ev_ rfl)) fun a hS => ?_
                          refine st_val hS rfl rfl (by decide) (r_cmp8 rfl (hS.ev_ rfl) (hS.ev_ (v := Value.int .u8 (b8 (10))) rfl) rfl) fun a hS => ?_
                          refine st_val hS rfl rfl (by decide) (r_assign rfl (hS.ev_ rfl)) fun a hS => ?_
                          refine st_done ?_
                          replace hS : Slots 133 [] a [(76, Value.bool (c47 == 10)), (8, Value.bool (x73)), (0, v2), (2, strV (([] : List UInt8))), (3, strV (x39)), (4, Value.int .i64 (x9)), (5, Value.pointer (some ⟨g28, 0, none⟩)), (6, Value.int .i64 (x38)), (7, Value.int .u8 (b8 (c47))), (9, v2), (10, Value.int .i64 ((p1.length : Int))), (11, Value.int .i64 (x9))] := (hS.part (.cons rfl (.cons rfl (.cons rfl (.cons rfl (.cons rfl (.cons rfl (.cons rfl (.cons rfl (.cons rfl (.cons rfl (.cons rfl (.cons rfl (.nil _))))))))))))))
                          refine x_then ?_
                          rcases ifB h46 with ⟨hc88, h46⟩ | ⟨hc88, h46⟩
                          · refine c_cond_true (hS.ev_ rfl) hc88 ?_
                            refine wp_region_lit ?_
                            refine st_val hS rfl rfl (by decide) (r_move rfl (hS.ev_ rfl)) fun a hS => ?_
                            obtain ⟨h89, h46⟩ := bindU h46
                            refine st_val hS rfl rfl (by decide) (r_sadd rfl (hS.ev_ rfl) (hS.ev_ (v := strV (([92, 110] : List UInt8))) rfl) (req_some h89)) fun a hS => ?_
                            refine st_val hS rfl rfl (by decide) (r_assign rfl (hS.ev_ rfl)) fun a hS => ?_
                            refine st_done ?_
                            replace hS : Slots 133 [] a [(3, strV (x39 ++ ([92, 110] : List UInt8))), (0, v2), (2, strV (([] : List UInt8))), (4, Value.int .i64 (x9)), (5, Value.pointer (some ⟨g28, 0, none⟩)), (6, Value.int .i64 (x38)), (9, v2), (10, Value.int .i64 ((p1.length : Int))), (11, Value.int .i64 (x9))] := (hS.part (.cons rfl (.cons rfl (.cons rfl (.cons rfl (.cons rfl (.cons rfl (.cons rfl (.cons rfl (.cons rfl (.nil _)))))))))))
                            refine x_block ?_
                            refine x_block ?_
                            refine x_then ?_
                            obtain rfl := Option.some.inj h46
                            exact ⟨K72, (hlK52.trans hlK72), (hS.part (.cons rfl (.cons rfl (.cons rfl (.cons rfl (.cons rfl (.cons rfl (.cons rfl (.cons rfl (.cons rfl (.nil _))))))))))), hM⟩
                          · refine c_cond_false (hS.ev_ rfl) hc88 ?_
                            refine wp_seq ?_
                            refine wp_region_lit ?_
                            refine st_val hS rfl rfl (by decide) (r_move rfl (hS.ev_ rfl)) fun a hS => ?_
                            refine st_val hS rfl rfl (by decide) (r_cmp8 rfl (hS.ev_ rfl) (hS.ev_ (v := Value.int .u8 (b8 (13))) rfl) rfl) fun a hS => ?_
                            refine st_val hS rfl rfl (by decide) (r_assign rfl (hS.ev_ rfl)) fun a hS => ?_
                            refine st_done ?_
                            replace hS : Slots 133 [] a [(81, Value.bool (c47 == 13)), (8, Value.bool (x73)), (0, v2), (2, strV (([] : List UInt8))), (3, strV (x39)), (4, Value.int .i64 (x9)), (5, Value.pointer (some ⟨g28, 0, none⟩)), (6, Value.int .i64 (x38)), (7, Value.int .u8 (b8 (c47))), (9, v2), (10, Value.int .i64 ((p1.length : Int))), (11, Value.int .i64 (x9))] := (hS.part (.cons rfl (.cons rfl (.cons rfl (.cons rfl (.cons rfl (.cons rfl (.cons rfl (.cons rfl (.cons rfl (.cons rfl (.cons rfl (.cons rfl (.nil _))))))))))))))
                            refine x_then ?_
                            rcases ifB h46 with ⟨hc90, h46⟩ | ⟨hc90, h46⟩
                            · refine c_cond_true (hS.ev_ rfl) hc90 ?_
                              refine wp_region_lit ?_
                              refine st_val hS rfl rfl (by decide) (r_move rfl (hS.ev_ rfl)) fun a hS => ?_
                              obtain ⟨h91, h46⟩ := bindU h46
                              refine st_val hS rfl rfl (by decide) (r_sadd rfl (hS.ev_ rfl) (hS.ev_ (v := strV (([92, 114] : List UInt8))) rfl) (req_some h91)) fun a hS => ?_
                              refine st_val hS rfl rfl (by decide) (r_assign rfl (hS.ev_ rfl)) fun a hS => ?_
                              refine st_done ?_
                              replace hS : Slots 133 [] a [(3, strV (x39 ++ ([92, 114] : List UInt8))), (0, v2), (2, strV (([] : List UInt8))), (4, Value.int .i64 (x9)), (5, Value.pointer (some ⟨g28, 0, none⟩)), (6, Value.int .i64 (x38)), (9, v2), (10, Value.int .i64 ((p1.length : Int))), (11, Value.int .i64 (x9))] := (hS.part (.cons rfl (.cons rfl (.cons rfl (.cons rfl (.cons rfl (.cons rfl (.cons rfl (.cons rfl (.cons rfl (.nil _)))))))))))
                              refine x_block ?_
                              refine x_block ?_
                              refine x_then ?_
                              obtain rfl := Option.some.inj h46
                              exact ⟨K72, (hlK52.trans hlK72), (hS.part (.cons rfl (.cons rfl (.cons rfl (.cons rfl (.cons rfl (.cons rfl (.cons rfl (.cons rfl (.cons rfl (.nil _))))))))))), hM⟩
                            · refine c_cond_false (hS.ev_ rfl) hc90 ?_
                              refine wp_seq ?_
                              refine wp_region_lit ?_
                              refine st_val hS rfl rfl (by decide) (r_move rfl (hS.ev_ rfl)) fun a hS => ?_
                              refine st_val hS rfl rfl (by decide) (r_cmp8 rfl (hS.ev_ rfl) (hS.ev_ (v := Value.int .u8 (b8 (9))) rfl) rfl) fun a hS => ?_
                              refine st_val hS rfl rfl (by decide) (r_assign rfl (hS.ev_ rfl)) fun a hS => ?_
                              refine st_done ?_
                              replace hS : Slots 133 [] a [(86, Value.bool (c47 == 9)), (8, Value.bool (x73)), (0, v2), (2, strV (([] : List UInt8))), (3, strV (x39)), (4, Value.int .i64 (x9)), (5, Value.pointer (some ⟨g28, 0, none⟩)), (6, Value.int .i64 (x38)), (7, Value.int .u8 (b8 (c47))), (9, v2), (10, Value.int .i64 ((p1.length : Int))), (11, Value.int .i64 (x9))] := (hS.part (.cons rfl (.cons rfl (.cons rfl (.cons rfl (.cons rfl (.cons rfl (.cons rfl (.cons rfl (.cons rfl (.cons rfl (.cons rfl (.cons rfl (.nil _))))))))))))))
                              refine x_then ?_
                              rcases ifB h46 with ⟨hc92, h46⟩ | ⟨hc92, h46⟩
                              · refine c_cond_true (hS.ev_ rfl) hc92 ?_
                                refine wp_region_lit ?_
                                refine st_val hS rfl rfl (by decide) (r_move rfl (hS.ev_ rfl)) fun a hS => ?_
                                obtain ⟨h93, h46⟩ := bindU h46
                                refine st_val hS rfl rfl (by decide) (r_sadd rfl (hS.ev_ rfl) (hS.ev_ (v := strV (([92, 116] : List UInt8))) rfl) (req_some h93)) fun a hS => ?_
                                refine st_val hS rfl rfl (by decide) (r_assign rfl (hS.ev_ rfl)) fun a hS => ?_
                                refine st_done ?_
                                replace hS : Slots 133 [] a [(3, strV (x39 ++ ([92, 116] : List UInt8))), (0, v2), (2, strV (([] : List UInt8))), (4, Value.int .i64 (x9)), (5, Value.pointer (some ⟨g28, 0, none⟩)), (6, Value.int .i64 (x38)), (9, v2), (10, Value.int .i64 ((p1.length : Int))), (11, Value.int .i64 (x9))] := (hS.part (.cons rfl (.cons rfl (.cons rfl (.cons rfl (.cons rfl (.cons rfl (.cons rfl (.cons rfl (.cons rfl (.nil _)))))))))))
                                refine x_block ?_
                                refine x_block ?_
                                refine x_then ?_
                                obtain rfl := Option.some.inj h46
                                exact ⟨K72, (hlK52.trans hlK72), (hS.part (.cons rfl (.cons rfl (.cons rfl (.cons rfl (.cons rfl (.cons rfl (.cons rfl (.cons rfl (.cons rfl (.nil _))))))))))), hM⟩
                              · refine c_cond_false (hS.ev_ rfl) hc92 ?_
                                refine wp_seq ?_
                                refine wp_region_lit ?_
                                refine st_val hS rfl rfl (by decide) (r_move rfl (hS.ev_ rfl)) fun a hS => ?_
                                refine st_val hS rfl rfl (by decide) (r_cmp8 rfl (hS.ev_ rfl) (hS.ev_ (v := Value.int .u8 (b8 (34))) rfl) rfl) fun a hS => ?_
                                refine st_val hS rfl rfl (by decide) (r_move rfl (hS.ev_ rfl)) fun a hS => ?_
                                obtain ⟨x94, h95, h46⟩ := bindO h46
                                refine wl_cut 3 (fun a w => Slots 133 [] a [(0, v2), (2, strV (([] : List UInt8))), (3, strV (x39)), (4, Value.int .i64 (x9)), (5, Value.pointer (some ⟨g28, 0, none⟩)), (6, Value.int .i64 (x38)), (7, Value.int .u8 (b8 (c47))), (8, Value.bool (x73)), (9, v2), (10, Value.int .i64 ((p1.length : Int))), (11, Value.int .i64 (x9)), (97, Value.bool (x94))] ∧ Sat w0 w K72 (SP.blk g28 47 [strV (e18.f_Var), strV (e18.f_Lit)] :: L)) ?_ ?_
                                ·
                                  skip
                                  rcases ifB h95 with ⟨hc96, h95⟩ | ⟨hc96, h95⟩
                                  ·
                                    replace hS := hS.known (k := 94) rfl hc96
                                    refine st_off hS rfl rfl rfl rfl rfl rfl (by decide) fun a hS => ?_
                                    refine st_off hS rfl rfl rfl rfl rfl rfl (by decide) fun a hS => ?_
                                    refine st_val hS rfl rfl (by decide) (r_pick_true rfl (hS.ev_ rfl) rfl (hS.ev_ rfl)) fun a hS => ?_
                                    refine st_done ?_
                                    replace hS : Slots 133 [] a [(97, Value.bool (true)), (8, Value.bool (x73)), (0, v2), (2, strV (([] : List UInt8))), (3, strV (x39)), (4, Value.int .i64 (x9)), (5, Value.pointer (some ⟨g28, 0, none⟩)), (6, Value.int .i64 (x38)), (7, Value.int .u8 (b8 (c47))), (9, v2), (10, Value.int .i64 ((p1.length : Int))), (11, Value.int .i64 (x9))] := (hS.part (.cons rfl (.cons rfl (.cons rfl (.cons rfl (.cons rfl (.cons rfl (.cons rfl (.cons rfl (.cons rfl (.cons rfl (.cons rfl (.cons rfl (.nil _))))))))))))))
                                    refine x_then ?_
                                    obtain rfl := Option.some.inj h95
                                    exact ⟨(hS.part (.cons rfl (.cons rfl (.cons rfl (.cons rfl (.cons rfl (.cons rfl (.cons rfl (.cons rfl (.cons rfl (.cons rfl (.cons rfl (.cons rfl (.nil _)))))))))))))), hM⟩
                                  ·
                                    replace hS := hS.known (k := 94) rfl hc96
                                    refine st_want hS rfl rfl rfl rfl rfl (by decide) (r_move rfl (hS.ev_ rfl)) fun a hS => ?_
                                    refine st_want hS rfl rfl rfl rfl rfl (by decide) (r_cmp8 rfl (hS.ev_ rfl) (hS.ev_ (v := Value.int .u8 (b8 (36))) rfl) rfl) fun a hS => ?_
                                    refine st_val hS rfl rfl (by decide) (r_pick_false rfl (hS.ev_ rfl) rfl (hS.ev_ rfl)) fun a hS => ?_
                                    refine st_done ?_
                                    replace hS : Slots 133 [] a [(97, Value.bool (c47 == 36)), (8, Value.bool (x73)), (0, v2), (2, strV (([] : List UInt8))), (3, strV (x39)), (4, Value.int .i64 (x9)), (5, Value.pointer (some ⟨g28, 0, none⟩)), (6, Value.int .i64 (x38)), (7, Value.int .u8 (b8 (c47))), (9, v2), (10, Value.int .i64 ((p1.length : Int))), (11, Value.int .i64 (x9))] := (hS.part (.cons rfl (.cons rfl (.cons rfl (.cons rfl (.cons rfl (.cons rfl (.cons rfl (.cons rfl (.cons rfl (.cons rfl (.cons rfl (.cons rfl (.nil _))))))))))))))
                                    refine x_then ?_
                                    obtain rfl := Option.some.inj h95
                                    exact ⟨(hS.part (.cons rfl (.cons rfl (.cons rfl (.cons rfl (.cons rfl (.cons rfl (.cons rfl (.cons rfl (.cons rfl (.cons rfl (.cons rfl (.cons rfl (.nil _)))))))))))))), hM⟩
                                · rintro a w ⟨hS, hM⟩
                                  refine st_val hS rfl rfl (by decide) (r_move rfl (hS.ev_ rfl)) fun a hS => ?_
                                  obtain ⟨x97, h98, h46⟩ := bindO h46
                                  refine wl_cut 3 (fun a w => Slots 133 [] a [(0, v2), (2, strV (([] : List UInt8))), (3, strV (x39)), (4, Value.int .i64 (x9)), (5, Value.pointer (some ⟨g28, 0, none⟩)), (6, Value.int .i64 (x38)), (7, Value.int .u8 (b8 (c47))), (8, Value.bool (x73)), (9, v2), (10, Value.int .i64 ((p1.length : Int))), (11, Value.int .i64 (x9)), (101, Value.bool (x97))] ∧ Sat w0 w K72 (SP.blk g28 47 [strV (e18.f_Var), strV (e18.f_Lit)] :: L)) ?_ ?_
                                  ·
                                    skip
                                    rcases ifB h98 with ⟨hc99, h98⟩ | ⟨hc99, h98⟩
                                    ·
                                      replace hS := hS.known (k := 98) rfl hc99
                                      refine st_off hS rfl rfl rfl rfl rfl rfl (by decide) fun a hS => ?_
                                      refine st_off hS rfl rfl rfl rfl rfl rfl (by decide) fun a hS => ?_
                                      refine st_val hS rfl rfl (by decide) (r_pick_true rfl (hS.ev_ rfl) rfl (hS.ev_ rfl)) fun a hS => ?_
                                      refine st_done ?_
                                      replace hS : Slots 133 [] a [(101, Value.bool (true)), (0, v2), (2, strV (([] : List UInt8))), (3, strV (x39)), (4, Value.int .i64 (x9)), (5, Value.pointer (some ⟨g28, 0, none⟩)), (6, Value.int .i64 (x38)), (7, Value.int .u8 (b8 (c47))), (8, Value.bool (x73)), (9, v2), (10, Value.int .i64 ((p1.length : Int))), (11, Value.int .i64 (x9))] := (hS.part (.cons rfl (.cons rfl (.cons rfl (.cons rfl (.cons rfl (.cons rfl (.cons rfl (.cons rfl (.cons rfl (.cons rfl (.cons rfl (.cons rfl (.nil _))))))))))))))
                                      refine x_then ?_
                                      obtain rfl := Option.some.inj h98
                                      exact ⟨(hS.part (.cons rfl (.cons rfl (.cons rfl (.cons rfl (.cons rfl (.cons rfl (.cons rfl (.cons rfl (.cons rfl (.cons rfl (.cons rfl (.cons rfl (.nil _)))))))))))))), hM⟩
                                    ·
                                      replace hS := hS.known (k := 98) rfl hc99
                                      refine st_want hS rfl rfl rfl rfl rfl (by decide) (r_move rfl (hS.ev_ rfl)) fun a hS => ?_
                                      refine st_want hS rfl rfl rfl rfl rfl (by decide) (r_cmp8 rfl (hS.ev_ rfl) (hS.ev_ (v := Value.int .u8 (b8 (92))) rfl) rfl) fun a hS => ?_
                                      refine st_val hS rfl rfl (by decide) (r_pick_false rfl (hS.ev_ rfl) rfl (hS.ev_ rfl)) fun a hS => ?_
                                      refine st_done ?_
                                      replace hS : Slots 133 [] a [(101, Value.bool (c47 == 92)), (0, v2), (2, strV (([] : List UInt8))), (3, strV (x39)), (4, Value.int .i64 (x9)), (5, Value.pointer (some ⟨g28, 0, none⟩)), (6, Value.int .i64 (x38)), (7, Value.int .u8 (b8 (c47))), (8, Value.bool (x73)), (9, v2), (10, Value.int .i64 ((p1.length : Int))), (11, Value.int .i64 (x9))] := (hS.part (.cons rfl (.cons rfl (.cons rfl (.cons rfl (.cons rfl (.cons rfl (.cons rfl (.cons rfl (.cons rfl (.cons rfl (.cons rfl (.cons rfl (.nil _))))))))))))))
                                      refine x_then ?_
                                      obtain rfl := Option.some.inj h98
                                      exact ⟨(hS.part (.cons rfl (.cons rfl (.cons rfl (.cons rfl (.cons rfl (.cons rfl (.cons rfl (.cons rfl (.cons rfl (.cons rfl (.cons rfl (.cons rfl (.nil _)))))))))))))), hM⟩
                                  · rintro a w ⟨hS, hM⟩
                                    refine st_val hS rfl rfl (by decide) (r_assign rfl (hS.ev_ rfl)) fun a hS => ?_
                                    refine st_done ?_
                                    replace hS : Slots 133 [] a [(91, Value.bool (x97)), (0, v2), (2, strV (([] : List UInt8))), (3, strV (x39)), (4, Value.int .i64 (x9)), (5, Value.pointer (some ⟨g28, 0, none⟩)), (6, Value.int .i64 (x38)), (7, Value.int .u8 (b8 (c47))), (8, Value.bool (x73)), (9, v2), (10, Value.int .i64 ((p1.length : Int))), (11, Value.int .i64 (x9))] := (hS.part (.cons rfl (.cons rfl (.cons rfl (.cons rfl (.cons rfl (.cons rfl (.cons rfl (.cons rfl (.cons rfl (.cons rfl (.cons rfl (.cons rfl (.nil _))))))))))))))
                                    refine x_then ?_
                                    rcases ifB h46 with ⟨hc100, h46⟩ | ⟨hc100, h46⟩
                                    · refine c_cond_true (hS.ev_ rfl) hc100 ?_
                                      refine wp_region_lit ?_
                                      refine st_val hS rfl rfl (by decide) (r_move rfl (hS.ev_ rfl)) fun a hS => ?_
                                      refine st_val hS rfl rfl (by decide) (r_fld_b rfl fo_47_1 (hS.ev_ rfl)) fun a hS => ?_
                                      refine st_val hS rfl rfl (by decide) (r_ld1_b rfl ag_9 (hS.ev_ rfl) rfl (Rd.of hM)) fun a hS => ?_
                                      refine st_val hS rfl rfl (by decide) (r_move rfl (hS.ev_ rfl)) fun a hS => ?_
                                      refine st_val hS rfl rfl (by decide) (r_move rfl (hS.ev_ rfl)) fun a hS => ?_
                                      refine st_val hS rfl rfl (by decide) (r_add rfl (hS.ev_ rfl) (hS.ev_ rfl)) fun a hS => ?_
                                      obtain ⟨s101, h102, h46⟩ := bindO h46
                                      refine st_val hS rfl rfl (by decide) (r_cut_s rfl un_9 (hS.ev_ rfl) (.inl (congrArg some (hS.ev_ rfl))) (.inl (congrArg some (hS.ev_ rfl))) h102) fun a hS => ?_
                                      obtain ⟨h103, h46⟩ := bindU h46
                                      refine st_val hS rfl rfl (by decide) (r_sadd rfl (hS.ev_ (v := strV (([92] : List UInt8))) rfl) (hS.ev_ rfl) (req_some h103)) fun a hS => ?_
                                      obtain ⟨h104, h46⟩ := bindU h46
                                      refine st_val hS rfl rfl (by decide) (r_sadd rfl (hS.ev_ rfl) (hS.ev_ rfl) (req_some h104)) fun a hS => ?_
                                      refine st_val hS rfl rfl (by decide) (r_assign rfl (hS.ev_ rfl)) fun a hS => ?_
                                      refine st_done ?_
                                      replace hS : Slots 133 [] a [(3, strV (x39 ++ (([92] : List UInt8) ++ s101))), (0, v2), (2, strV (([] : List UInt8))), (4, Value.int .i64 (x9)), (5, Value.pointer (some ⟨g28, 0, none⟩)), (6, Value.int .i64 (x38)), (9, v2), (10, Value.int .i64 ((p1.length : Int))), (11, Value.int .i64 (x9))] := (hS.part (.cons rfl (.cons rfl (.cons rfl (.cons rfl (.cons rfl (.cons rfl (.cons rfl (.cons rfl (.cons rfl (.nil _)))))))))))
                                      refine x_block ?_
                                      refine x_block ?_
                                      refine x_then ?_
                                      obtain rfl := Option.some.inj h46
                                      exact ⟨K72, (hlK52.trans hlK72), (hS.part (.cons rfl (.cons rfl (.cons rfl (.cons rfl (.cons rfl (.cons rfl (.cons rfl (.cons rfl (.cons rfl (.nil _))))))))))), hM⟩
                                    · refine c_cond_false (hS.ev_ rfl) hc100 ?_
                                      refine wp_seq ?_
                                      refine wp_region_lit ?_
                                      refine st_val hS rfl rfl (by decide) (r_move rfl (hS.ev_ rfl)) fun a hS => ?_
                                      refine st_val hS rfl rfl (by decide) (r_cmp8 rfl (hS.ev_ rfl) (hS.ev_ (v := Value.int .u8 (b8 (32))) rfl) rfl) fun a hS => ?_
                                      refine st_val hS rfl rfl (by decide) (r_move rfl (hS.ev_ rfl)) fun a hS => ?_
                                      obtain ⟨x105, h106, h46⟩ := bindO h46
                                      refine wl_cut 3 (fun a w => Slots 133 [] a [(0, v2), (2, strV (([] : List UInt8))), (3, strV (x39)), (4, Value.int .i64 (x9)), (5, Value.pointer (some ⟨g28, 0, none⟩)), (6, Value.int .i64 (x38)), (7, Value.int .u8 (b8 (c47))), (8, Value.bool (x73)), (9, v2), (10, Value.int .i64 ((p1.length : Int))), (11, Value.int .i64 (x9)), (117, Value.bool (x105))] ∧ Sat w0 w K72 (SP.blk g28 47 [strV (e18.f_Var), strV (e18.f_Lit)] :: L)) ?_ ?_
                                      ·
                                        skip
                                        rcases ifB h106 with ⟨hc107, h106⟩ | ⟨hc107, h106⟩
                                        ·
                                          replace hS := hS.known (k := 114) rfl hc107
                                          refine st_want hS rfl rfl rfl rfl rfl (by decide) (r_move rfl (hS.ev_ rfl)) fun a hS => ?_
                                          refine st_want hS rfl rfl rfl rfl rfl (by decide) (r_cmp8 rfl (hS.ev_ rfl) (hS.ev_ (v := Value.int .u8 (b8 (127))) rfl) rfl) fun a hS => ?_
                                          refine st_val hS rfl rfl (by decide) (r_pick_true rfl (hS.ev_ rfl) rfl (hS.ev_ rfl)) fun a hS => ?_
                                          refine st_done ?_
                                          replace hS : Slots 133 [] a [(117, Value.bool (decide (c47 < 127))), (0, v2), (2, strV (([] : List UInt8))), (3, strV (x39)), (4, Value.int .i64 (x9)), (5, Value.pointer (some ⟨g28, 0, none⟩)), (6, Value.int .i64 (x38)), (7, Value.int .u8 (b8 (c47))), (8, Value.bool (x73)), (9, v2), (10, Value.int .i64 ((p1.length : Int))), (11, Value.int .i64 (x9))] := (hS.part (.cons rfl (.cons rfl (.cons rfl (.cons rfl (.cons rfl (.cons rfl (.cons rfl (.cons rfl (.cons rfl (.cons rfl (.cons rfl (.cons rfl (.nil _))))))))))))))
                                          refine x_then ?_
                                          obtain rfl := Option.some.inj h106
                                          exact ⟨(hS.part (.cons rfl (.cons rfl (.cons rfl (.cons rfl (.cons rfl (.cons rfl (.cons rfl (.cons rfl (.cons rfl (.cons rfl (.cons rfl (.cons rfl (.nil _)))))))))))))), hM⟩
                                        ·
                                          replace hS := hS.known (k := 114) rfl hc107
                                          refine st_off hS rfl rfl rfl rfl rfl rfl (by decide) fun a hS => ?_
                                          refine st_off hS rfl rfl rfl rfl rfl rfl (by decide) fun a hS => ?_
                                          refine st_val hS rfl rfl (by decide) (r_pick_false rfl (hS.ev_ rfl) rfl (hS.ev_ rfl)) fun a hS => ?_
                                          refine st_done ?_
                                          replace hS : Slots 133 [] a [(117, Value.bool (false)), (0, v2), (2, strV (([] : List UInt8))), (3, strV (x39)), (4, Value.int .i64 (x9)), (5, Value.pointer (some ⟨g28, 0, none⟩)), (6, Value.int .i64 (x38)), (7, Value.int .u8 (b8 (c47))), (8, Value.bool (x73)), (9, v2), (10, Value.int .i64 ((p1.length : Int))), (11, Value.int .i64 (x9))] := (hS.part (.cons rfl (.cons rfl (.cons rfl (.cons rfl (.cons rfl (.cons rfl (.cons rfl (.cons rfl (.cons rfl (.cons rfl (.cons rfl (.cons rfl (.nil _))))))))))))))
                                          refine x_then ?_
                                          obtain rfl := Option.some.inj h106
                                          exact ⟨(hS.part (.cons rfl (.cons rfl (.cons rfl (.cons rfl (.cons rfl (.cons rfl (.cons rfl (.cons rfl (.cons rfl (.cons rfl (.cons rfl (.cons rfl (.nil _)))))))))))))), hM⟩
                                      · rintro a w ⟨hS, hM⟩
                                        refine st_val hS rfl rfl (by decide) (r_move rfl (hS.ev_ rfl)) fun a hS => ?_
                                        obtain ⟨x108, h109, h46⟩ := bindO h46
                                        refine wl_cut 3 (fun a w => Slots 133 [] a [(0, v2), (2, strV (([] : List UInt8))), (3, strV (x39)), (4, Value.int .i64 (x9)), (5, Value.pointer (some ⟨g28, 0, none⟩)), (6, Value.int .i64 (x38)), (7, Value.int .u8 (b8 (c47))), (9, v2), (10, Value.int .i64 ((p1.length : Int))), (11, Value.int .i64 (x9)), (121, Value.bool (x108))] ∧ Sat w0 w K72 (SP.blk g28 47 [strV (e18.f_Var), strV (e18.f_Lit)] :: L)) ?_ ?_
                                        ·
                                          skip
                                          rcases ifB h109 with ⟨hc110, h109⟩ | ⟨hc110, h109⟩
                                          ·
                                            replace hS := hS.known (k := 118) rfl hc110
                                            refine st_want hS rfl rfl rfl rfl rfl (by decide) (r_move rfl (hS.ev_ rfl)) fun a hS => ?_
                                            refine st_want hS rfl rfl rfl rfl rfl (by decide) (r_not rfl (hS.ev_ rfl)) fun a hS => ?_
                                            refine st_val hS rfl rfl (by decide) (r_pick_true rfl (hS.ev_ rfl) rfl (hS.ev_ rfl)) fun a hS => ?_
                                            refine st_done ?_
                                            replace hS : Slots 133 [] a [(121, Value.bool (!x73)), (0, v2), (2, strV (([] : List UInt8))), (3, strV (x39)), (4, Value.int .i64 (x9)), (5, Value.pointer (some ⟨g28, 0, none⟩)), (6, Value.int .i64 (x38)), (7, Value.int .u8 (b8 (c47))), (9, v2), (10, Value.int .i64 ((p1.length : Int))), (11, Value.int .i64 (x9))] := (hS.part (.cons rfl (.cons rfl (.cons rfl (.cons rfl (.cons rfl (.cons rfl (.cons rfl (.cons rfl (.cons rfl (.cons rfl (.cons rfl (.nil _)))))))))))))
                                            refine x_then ?_
                                            obtain rfl := Option.some.inj h109
                                            exact ⟨(hS.part (.cons rfl (.cons rfl (.cons rfl (.cons rfl (.cons rfl (.cons rfl (.cons rfl (.cons rfl (.cons rfl (.cons rfl (.cons rfl (.nil _))))))))))))), hM⟩
                                          ·
                                            replace hS := hS.known (k := 118) rfl hc110
                                            refine st_off hS rfl rfl rfl rfl rfl rfl (by decide) fun a hS => ?_
                                            refine st_off hS rfl rfl rfl rfl rfl rfl (by decide) fun a hS => ?_
                                            refine st_val hS rfl rfl (by decide) (r_pick_false rfl (hS.ev_ rfl) rfl (hS.ev_ rfl)) fun a hS => ?_
                                            refine st_done ?_
                                            replace hS : Slots 133 [] a [(121, Value.bool (false)), (0, v2), (2, strV (([] : List UInt8))), (3, strV (x39)), (4, Value.int .i64 (x9)), (5, Value.pointer (some ⟨g28, 0, none⟩)), (6, Value.int .i64 (x38)), (7, Value.int .u8 (b8 (c47))), (9, v2), (10, Value.int .i64 ((p1.length : Int))), (11, Value.int .i64 (x9))] := (hS.part (.cons rfl (.cons rfl (.cons rfl (.cons rfl (.cons rfl (.cons rfl (.cons rfl (.cons rfl (.cons rfl (.cons rfl (.cons rfl (.nil _)))))))))))))
                                            refine x_then ?_
                                            obtain rfl := Option.some.inj h109
                                            exact ⟨(hS.part (.cons rfl (.cons rfl (.cons rfl (.cons rfl (.cons rfl (.cons rfl (.cons rfl (.cons rfl (.cons rfl (.cons rfl (.cons rfl (.nil _))))))))))))), hM⟩
                                        · rintro a w ⟨hS, hM⟩
                                          refine st_val hS rfl rfl (by decide) (r_assign rfl (hS.ev_ rfl)) fun a hS => ?_
                                          refine st_done ?_
                                          replace hS : Slots 133 [] a [(111, Value.bool (x108)), (0, v2), (2, strV (([] : List UInt8))), (3, strV (x39)), (4, Value.int .i64 (x9)), (5, Value.pointer (some ⟨g28, 0, none⟩)), (6, Value.int .i64 (x38)), (7, Value.int .u8 (b8 (c47))), (9, v2), (10, Value.int .i64 ((p1.length : Int))), (11, Value.int .i64 (x9))] := (hS.part (.cons rfl (.cons rfl (.cons rfl (.cons rfl (.cons rfl (.cons rfl (.cons rfl (.cons rfl (.cons rfl (.cons rfl (.cons rfl (.nil _)))))))))))))
                                          refine x_then ?_
                                          rcases ifB h46 with ⟨hc111, h46⟩ | ⟨hc111, h46⟩
                                          · refine c_cond_true (hS.ev_ rfl) hc111 ?_
                                            refine wp_region_lit ?_
                                            refine st_val hS rfl rfl (by decide) (r_move rfl (hS.ev_ rfl)) fun a hS => ?_
                                            refine st_val hS rfl rfl (by decide) (r_fld_b rfl fo_47_1 (hS.ev_ rfl)) fun a hS => ?_
                                            refine st_val hS rfl rfl (by decide) (r_ld1_b rfl ag_9 (hS.ev_ rfl) rfl (Rd.of hM)) fun a hS => ?_
                                            refine st_val hS rfl rfl (by decide) (r_move rfl (hS.ev_ rfl)) fun a hS => ?_
                                            refine st_val hS rfl rfl (by decide) (r_move rfl (hS.ev_ rfl)) fun a hS => ?_
                                            refine st_val hS rfl rfl (by decide) (r_add rfl (hS.ev_ rfl) (hS.ev_ rfl)) fun a hS => ?_
                                            obtain ⟨s112, h113, h46⟩ := bindO h46
                                            refine st_val hS rfl rfl (by decide) (r_cut_s rfl un_9 (hS.ev_ rfl) (.inl (congrArg some (hS.ev_ rfl))) (.inl (congrArg some (hS.ev_ rfl))) h113) fun a hS => ?_
                                            obtain ⟨h114, h46⟩ := bindU h46
                                            refine st_val hS rfl rfl (by decide) (r_sadd rfl (hS.ev_ rfl) (hS.ev_ rfl) (req_some h114)) fun a hS => ?_
                                            refine st_val hS rfl rfl (by decide) (r_assign rfl (hS.ev_ rfl)) fun a hS => ?_
                                            refine st_done ?_
                                            replace hS : Slots 133 [] a [(3, strV (x39 ++ s112)), (0, v2), (2, strV (([] : List UInt8))), (4, Value.int .i64 (x9)), (5, Value.pointer (some ⟨g28, 0, none⟩)), (6, Value.int .i64 (x38)), (9, v2), (10, Value.int .i64 ((p1.length : Int))), (11, Value.int .i64 (x9))] := (hS.part (.cons rfl (.cons rfl (.cons rfl (.cons rfl (.cons rfl (.cons rfl (.cons rfl (.cons rfl (.cons rfl (.nil _)))))))))))
                                            refine x_block ?_
                                            refine x_block ?_
                                            refine x_then ?_
                                            obtain rfl := Option.some.inj h46
                                            exact ⟨K72, (hlK52.trans hlK72), (hS.part (.cons rfl (.cons rfl (.cons rfl (.cons rfl (.cons rfl (.cons rfl (.cons rfl (.cons rfl (.cons rfl (.nil _))))))))))), hM⟩
                                          · refine c_cond_false (hS.ev_ rfl) hc111 ?_
                                            refine tk_start #[false, false, false, false, false, false, false, false, false, false, false, false, false, false, false, false, false] mixed_ rfl rfl ?_
                                            replace hM := hM.drew
                                            generalize w.drew = w at hM ⊢
                                            refine dk_any (i := 0) #[true, false, false, false, false, false, false, false, false, false, false, false, false, false, false, false, false] hS rfl (by kernel_rfl) rfl rfl (by decide) (fun w => r_move rfl (hS.ev_ rfl)) fun a hS => ?_
                                            refine dk_any (i := 1) #[true, true, false, false, false, false, false, false, false, false, false, false, false, false, false, false, false] hS rfl (by kernel_rfl) rfl rfl (by decide) (fun w => r_move rfl (hS.ev_ rfl)) fun a hS => ?_
                                            obtain ⟨q115, h116, h46⟩ := bindO h46
                                            obtain ⟨h116n, h116e⟩ := bquo_some h116
                                            refine dk_any (i := 2) #[true, true, true, false, false, false, false, false, false, false, false, false, false, false, false, false, false] hS rfl (by kernel_rfl) rfl rfl (by decide) (fun w => h116e ▸ r_quo8 rfl (hS.ev_ rfl) (hS.ev_ (v := Value.int .u8 (b8 (16))) rfl) h116n) fun a hS => ?_
                                            refine dk_any (i := 3) #[true, true, true, true, false, false, false, false, false, false, false, false, false, false, false, false, false] hS rfl (by kernel_rfl) rfl rfl (by decide) (fun w => r_move rfl (hS.ev_ rfl)) fun a hS => ?_
                                            obtain ⟨q117, h118, h46⟩ := bindO h46
                                            obtain ⟨h118n, h118e⟩ := bquo_some h118
                                            refine dk_any (i := 4) #[true, true, true, true, true, false, false, false, false, false, false, false, false, false, false, false, false] hS rfl (by kernel_rfl) rfl rfl (by decide) (fun w => h118e ▸ r_quo8 rfl (hS.ev_ rfl) (hS.ev_ (v := Value.int .u8 (b8 (16))) rfl) h118n) fun a hS => ?_
                                            refine dk_any (i := 5) #[true, true, true, true, true, true, false, false, false, false, false, false, false, false, false, false, false] hS rfl (by kernel_rfl) rfl rfl (by decide) (fun w => r_add8 rfl (hS.ev_ rfl) (hS.ev_ (v := Value.int .u8 (b8 (1))) rfl)) fun a hS => ?_
                                            obtain ⟨s119, h120, h46⟩ := bindO h46
                                            refine dk_any (i := 6) #[true, true, true, true, true, true, true, false, false, false, false, false, false, false, false, false, false] hS rfl (by kernel_rfl) rfl rfl (by decide) (fun w => r_cut_s rfl un_9 (hS.ev_ (v := strV (([48, 49, 50, 51, 52, 53, 54, 55, 56, 57, 97, 98, 99, 100, 101, 102] : List UInt8))) rfl) (.inl (congrArg some (hS.ev_ rfl))) (.inl (congrArg some (hS.ev_ rfl))) h120) fun a hS => ?_
                                            obtain ⟨h121, h46⟩ := bindU h46
                                            refine dk_any (i := 7) #[true, true, true, true, true, true, true, true, false, false, false, false, false, false, false, false, false] hS rfl (by kernel_rfl) rfl rfl (by decide) (fun w => r_sadd rfl (hS.ev_ (v := strV (([92, 120] : List UInt8))) rfl) (hS.ev_ rfl) (req_some h121)) fun a hS => ?_
                                            refine dk_any (i := 8) #[true, true, true, true, true, true, true, true, true, false, false, false, false, false, false, false, false] hS rfl (by kernel_rfl) rfl rfl (by decide) (fun w => r_move rfl (hS.ev_ rfl)) fun a hS => ?_
                                            obtain ⟨q122, h123, h46⟩ := bindO h46
                                            obtain ⟨h123n, h123e⟩ := brem_some h123
                                            refine dk_any (i := 9) #[true, true, true, true, true, true, true, true, true, true, false, false, false, false, false, false, false] hS rfl (by kernel_rfl) rfl rfl (by decide) (fun w => h123e ▸ r_rem8 rfl (hS.ev_ rfl) (hS.ev_ (v := Value.int .u8 (b8 (16))) rfl) h123n) fun a hS => ?_
                                            refine dk_any (i := 10) #[true, true, true, true, true, true, true, true, true, true, true, false, false, false, false, false, false] hS rfl (by kernel_rfl) rfl rfl (by decide) (fun w => r_move rfl (hS.ev_ rfl)) fun a hS => ?_
                                            obtain ⟨q124, h125, h46⟩ := bindO h46
                                            obtain ⟨h125n, h125e⟩ := brem_some h125
                                            refine dk_any (i := 11) #[true, true, true, true, true, true, true, true, true, true, true, true, false, false, false, false, false] hS rfl (by kernel_rfl) rfl rfl (by decide) (fun w => h125e ▸ r_rem8 rfl (hS.ev_ rfl) (hS.ev_ (v := Value.int .u8 (b8 (16))) rfl) h125n) fun a hS => ?_
                                            refine dk_any (i := 12) #[true, true, true, true, true, true, true, true, true, true, true, true, true, false, false, false, false] hS rfl (by kernel_rfl) rfl rfl (by decide) (fun w => r_add8 rfl (hS.ev_ rfl) (hS.ev_ (v := Value.int .u8 (b8 (1))) rfl)) fun a hS => ?_
                                            obtain ⟨s126, h127, h46⟩ := bindO h46
                                            refine dk_any (i := 13) #[true, true, true, true, true, true, true, true, true, true, true, true, true, true, false, false, false] hS rfl (by kernel_rfl) rfl rfl (by decide) (fun w => r_cut_s rfl un_9 (hS.ev_ (v := strV (([48, 49, 50, 51, 52, 53, 54, 55, 56, 57, 97, 98, 99, 100, 101, 102] : List UInt8))) rfl) (.inl (congrArg some (hS.ev_ rfl))) (.inl (congrArg some (hS.ev_ rfl))) h127) fun a hS => ?_
                                            obtain ⟨h128, h46⟩ := bindU h46
                                            refine dk_any (i := 14) #[true, true, true, true, true, true, true, true, true, true, true, true, true, true, true, false, false] hS rfl (by kernel_rfl) rfl rfl (by decide) (fun w => r_sadd rfl (hS.ev_ rfl) (hS.ev_ rfl) (req_some h128)) fun a hS => ?_
                                            obtain ⟨h129, h46⟩ := bindU h46
                                            refine dk_any (i := 15) #[true, true, true, true, true, true, true, true, true, true, true, true, true, true, true, true, false] hS rfl (by kernel_rfl) rfl rfl (by decide) (fun w => r_sadd rfl (hS.ev_ rfl) (hS.ev_ rfl) (req_some h129)) fun a hS => ?_
                                            refine dk_any (i := 16) #[true, true, true, true, true, true, true, true, true, true, true, true, true, true, true, true, true] hS rfl (by kernel_rfl) rfl rfl (by decide) (fun w => r_assign rfl (hS.ev_ rfl)) fun a hS => ?_
                                            refine tk_done (by kernel_rfl) ?_
                                            replace hS : Slots 133 [] a [(3, strV (x39 ++ ((([92, 120] : List UInt8) ++ s119) ++ s126))), (0, v2), (2, strV (([] : List UInt8))), (4, Value.int .i64 (x9)), (5, Value.pointer (some ⟨g28, 0, none⟩)), (6, Value.int .i64 (x38)), (9, v2), (10, Value.int .i64 ((p1.length : Int))), (11, Value.int .i64 (x9))] := (hS.part (.cons rfl (.cons rfl (.cons rfl (.cons rfl (.cons rfl (.cons rfl (.cons rfl (.cons rfl (.cons rfl (.nil _)))))))))))
                                            refine x_block ?_
                                            refine x_block ?_
                                            refine x_then ?_
                                            obtain rfl := Option.some.inj h46
                                            exact ⟨K72, (hlK52.trans hlK72), (hS.part (.cons rfl (.cons rfl (.cons rfl (.cons rfl (.cons rfl (.cons rfl (.cons rfl (.cons rfl (.cons rfl (.nil _))))))))))), hM⟩
                  · rintro a w ⟨K44, hlK44, hS, hM⟩
                    refine wp_region_lit ?_
                    refine st_val hS rfl rfl (by decide) (r_move rfl (hS.ev_ rfl)) fun a hS => ?_
                    refine st_val hS rfl rfl (by decide) (r_add rfl (hS.ev_ rfl) (hS.ev_ rfl)) fun a hS => ?_
                    refine st_val hS rfl rfl (by decide) (r_assign rfl (hS.ev_ rfl)) fun a hS => ?_
                    refine st_done ?_
                    replace hS : Slots 133 [] a [(6, Value.int .i64 (w64 (x38 + 1))), (0, v2), (2, strV (([] : List UInt8))), (4, Value.int .i64 (x9)), (5, Value.pointer (some ⟨g28, 0, none⟩)), (9, v2), (10, Value.int .i64 ((p1.length : Int))), (11, Value.int .i64 (x9)), (3, strV (x45))] := (hS.part (.cons rfl (.cons rfl (.cons rfl (.cons rfl (.cons rfl (.cons rfl (.cons rfl (.cons rfl (.cons rfl (.nil _)))))))))))
                    refine x_then ?_
                    exact ih (w64 (x38 + 1)) x45 _ h hr K44 _ _ (hlK37.trans hlK44) (hS.part (.cons rfl (.cons rfl (.cons rfl (.cons rfl (.cons rfl (.cons rfl (.cons rfl (.cons rfl (.cons rfl (.nil _))))))))))) (hM)
                · refine c_cond_false (hS.ev_ rfl) hc43 ?_
                  refine wp_exit ?_
                  refine x_then_exit ?_
                  refine x_then_exit ?_
                  have ho' := (Option.some.inj h).trans hr
                  refine hQ _ _ _ ?_
                  subst ho'
                  exact ⟨rfl, K37, hlK37, (hS.part (.cons rfl (.cons rfl (.cons rfl (.cons rfl (.cons rfl (.cons rfl (.nil _)))))))), hM⟩
              exact key 0 x10 _ h41 rfl K8 _ _ (Hp.le.refl _) (hS.part (.cons rfl (.cons rfl (.cons rfl (.cons rfl (.cons rfl (.cons rfl (.cons rfl (.cons rfl (.cons rfl (.nil _))))))))))) (hM)
            · rintro e a w ⟨rfl, K42, hlK42, hS, hM⟩
              refine x_block_here ?_
              refine x_block ?_
              refine x_then ?_
              obtain rfl := Option.some.inj h17
              exact ⟨K42, hlK42, (hS.part (.cons rfl (.cons rfl (.cons rfl (.cons rfl (.cons rfl (.cons rfl (.nil _)))))))), (hM).tail⟩
        · rintro a w ⟨K15, hlK15, hS, hM⟩
          refine wp_region_lit ?_
          refine st_val hS rfl rfl (by decide) (r_add rfl (hS.ev_ rfl) (hS.ev_ rfl)) fun a hS => ?_
          refine st_val hS rfl rfl (by decide) (r_move rfl (hS.ev_ rfl)) fun a hS => ?_
          refine st_done ?_
          replace hS : Slots 133 [] a [(11, Value.int .i64 (w64 (x9 + 1))), (0, v2), (2, strV (([] : List UInt8))), (9, v2), (10, Value.int .i64 ((p1.length : Int))), (3, strV (x16))] := (hS.part (.cons rfl (.cons rfl (.cons rfl (.cons rfl (.cons rfl (.cons rfl (.nil _))))))))
          refine x_then ?_
          exact ih (w64 (x9 + 1)) x16 _ h hr K15 _ _ (hlK8.trans hlK15) (hS.part (.cons rfl (.cons rfl (.cons rfl (.cons rfl (.cons rfl (.cons rfl (.nil _)))))))) (hM)
      · refine c_cond_false (hS.ev_ rfl) hc14 ?_
        refine wp_exit ?_
        refine x_then_exit ?_
        refine x_then_exit ?_
        have ho' := (Option.some.inj h).trans hr
        refine hQ _ _ _ ?_
        subst ho'
        exact ⟨rfl, K8, hlK8, (hS.part (.cons rfl (.cons rfl (.nil _)))), hM⟩
    exact key 0 ([34] : List UInt8) _ h12 rfl K _ _ (Hp.le.refl _) (hS.part (.cons rfl (.cons rfl (.cons rfl (.cons rfl (.cons rfl (.cons rfl (.nil _)))))))) (hM)
  · rintro e a w ⟨rfl, K13, hlK13, hS, hM⟩
    refine x_block_here ?_
    refine x_then ?_
    refine wp_seq ?_
    refine wp_region_lit ?_
    refine st_val hS rfl rfl (by decide) (r_move rfl (hS.ev_ rfl)) fun a hS => ?_
    obtain ⟨h130, h⟩ := bindU h
    refine st_val hS rfl rfl (by decide) (r_sadd rfl (hS.ev_ rfl) (hS.ev_ (v := strV (([34] : List UInt8))) rfl) (req_some h130)) fun a hS => ?_
    refine st_val hS rfl rfl (by decide) (r_assign rfl (hS.ev_ rfl)) fun a hS => ?_
    refine st_done ?_
    replace hS : Slots 133 [] a [(2, strV (o11 ++ ([34] : List UInt8)))] := (hS.part (.cons rfl (.nil _)))
    refine x_then ?_
    refine wp_ret ?_
    have hr' := Option.some.inj h
    subst hr'
    refine ret1 (.inr rfl) hS rfl rfl ?_
    exact ⟨K13, hlK13, hM, rfl⟩

end Go.Proofs.YtekcconmnhjhiaaDoor
