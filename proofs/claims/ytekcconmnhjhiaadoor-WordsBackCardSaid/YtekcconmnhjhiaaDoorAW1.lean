/-
  What the code computes: plain functions, and the walks.: the walks, part 1.
-/
import Derived.Test.YtekcconmnhjhiaaDoorAD
set_option linter.unusedVariables false
set_option linter.unusedSimpArgs false
set_option maxRecDepth 10000
set_option maxHeartbeats 1000000
namespace Go.Proofs.YtekcconmnhjhiaaDoor
open Go Go.RowKit Sl

theorem W_reader_ends_c {w0 w : World} {K : Hp} {L : List SP} {p1 : W_reader} {g2 : Nat} {r : Bool × W_reader} (hG : Glob w0) (h : W_reader_ends p1 = some r) (hM : Sat w0 w K (SP.blk g2 62 [strV (p1.f_s), Value.int .i64 (p1.f_at)] :: L)) :
    Calls Tryd.prog 29 #[Value.pointer (some ⟨g2, 0, none⟩)] w (fun e w' => ∃ (K' : Hp), Hp.le K K' ∧ Sat w0 w' K' (SP.blk g2 62 [strV (r.2.f_s), Value.int .i64 (r.2.f_at)] :: L) ∧ e = .returned (Value.bool (r.1))) := by
  refine enter_ (n := 13) (args := [Value.pointer (some ⟨g2, 0, none⟩)]) Tryd.func29 rfl rfl (Nat.le_of_ble_eq_true rfl) fun a hS => ?_
  replace hS : Slots 13 [] a [(0, Value.pointer (some ⟨g2, 0, none⟩))] := hS
  unfold W_reader_ends at h
  refine wp_seq ?_
  refine wp_region_lit ?_
  refine st_val hS rfl rfl (by decide) (r_assign rfl (hS.ev_ rfl)) fun a hS => ?_
  refine st_done ?_
  replace hS : Slots 13 [] a [(2, Value.bool (false)), (0, Value.pointer (some ⟨g2, 0, none⟩))] := (hS.part (.cons rfl (.cons rfl (.nil _))))
  refine x_then ?_
  refine wp_seq ?_
  refine tk_start #[false, false, false, false, false, false, false, false, false, false, false] mixed_ rfl rfl ?_
  replace hM := hM.drew
  generalize w.drew = w at hM ⊢
  refine dk_any (i := 0) #[true, false, false, false, false, false, false, false, false, false, false] hS rfl (by kernel_rfl) rfl rfl (by decide) (fun w => r_move rfl (hS.ev_ rfl)) fun a hS => ?_
  refine dk_any (i := 1) #[true, true, false, false, false, false, false, false, false, false, false] hS rfl (by kernel_rfl) rfl rfl (by decide) (fun w => r_nilCheck rfl (hS.ev_ rfl)) fun a hS => ?_
  refine dk_any (i := 2) #[true, true, true, false, false, false, false, false, false, false, false] hS rfl (by kernel_rfl) rfl rfl (by decide) (fun w => r_fld_b rfl fo_62_1 (hS.ev_ rfl)) fun a hS => ?_
  refine dk_val (i := 3) (S := Rd w0 K [SP.blk g2 62 [strV (p1.f_s), Value.int .i64 (p1.f_at)]]) #[true, true, true, true, false, false, false, false, false, false, false] hS rfl (by kernel_rfl) rfl rfl (by decide) (Rd.of hM.only) (fun w hR => r_ld1_b rfl ag_3 (hS.ev_ rfl) rfl hR) fun a hS => ?_
  refine dk_any (i := 4) #[true, true, true, true, true, false, false, false, false, false, false] hS rfl (by kernel_rfl) rfl rfl (by decide) (fun w => r_move rfl (hS.ev_ rfl)) fun a hS => ?_
  refine dk_any (i := 5) #[true, true, true, true, true, true, false, false, false, false, false] hS rfl (by kernel_rfl) rfl rfl (by decide) (fun w => r_nilCheck rfl (hS.ev_ rfl)) fun a hS => ?_
  refine dk_any (i := 6) #[true, true, true, true, true, true, true, false, false, false, false] hS rfl (by kernel_rfl) rfl rfl (by decide) (fun w => r_fld_b rfl fo_62_0 (hS.ev_ rfl)) fun a hS => ?_
  refine dk_val (i := 7) (S := Rd w0 K [SP.blk g2 62 [strV (p1.f_s), Value.int .i64 (p1.f_at)]]) #[true, true, true, true, true, true, true, true, false, false, false] hS rfl (by kernel_rfl) rfl rfl (by decide) (Rd.of hM.only) (fun w hR => r_ld1_b rfl ag_9 (hS.ev_ rfl) rfl hR) fun a hS => ?_
  refine dk_any (i := 8) #[true, true, true, true, true, true, true, true, true, false, false] hS rfl (by kernel_rfl) rfl rfl (by decide) (fun w => r_len_str rfl un_9 (hS.ev_ rfl)) fun a hS => ?_
  refine dk_any (i := 9) #[true, true, true, true, true, true, true, true, true, true, false] hS rfl (by kernel_rfl) rfl rfl (by decide) (fun w => r_cmp rfl (hS.ev_ rfl) (hS.ev_ rfl) rfl) fun a hS => ?_
  refine dk_any (i := 10) #[true, true, true, true, true, true, true, true, true, true, true] hS rfl (by kernel_rfl) rfl rfl (by decide) (fun w => r_assign rfl (hS.ev_ rfl)) fun a hS => ?_
  refine tk_done (by kernel_rfl) ?_
  replace hS : Slots 13 [] a [(2, Value.bool (decide (p1.f_at ≥ ((p1.f_s.length : Int)))))] := (hS.part (.cons rfl (.nil _)))
  refine x_then ?_
  refine wp_ret ?_
  have hr' := Option.some.inj h
  subst hr'
  refine ret1 (.inr rfl) hS rfl rfl ?_
  exact ⟨K, (Hp.le.refl _), hM, rfl⟩

theorem W_reader_while_c {w0 w : World} {K : Hp} {L : List SP} {p1 : W_reader} {p3 : UInt8 → Option Bool} {g2 : Nat} {q4 : Value} {r : (List UInt8) × W_reader} (hG : Glob w0) (h : W_reader_while p1 p3 = some r) (hf5 : FnD Tryd.prog w0 q4 (fun (x : UInt8) => Value.int .u8 (b8 (x))) (fun (r : Bool) => Value.bool (r)) p3) (hM : Sat w0 w K (SP.blk g2 62 [strV (p1.f_s), Value.int .i64 (p1.f_at)] :: L)) :
    Calls Tryd.prog 36 #[Value.pointer (some ⟨g2, 0, none⟩), q4] w (fun e w' => ∃ (K' : Hp), Hp.le K K' ∧ Sat w0 w' K' (SP.blk g2 62 [strV (r.2.f_s), Value.int .i64 (r.2.f_at)] :: L) ∧ e = .returned (strV (r.1))) := by
  refine enter_ (n := 43) (args := [Value.pointer (some ⟨g2, 0, none⟩), q4]) Tryd.func36 rfl rfl (Nat.le_of_ble_eq_true rfl) fun a hS => ?_
  replace hS : Slots 43 [] a [(0, Value.pointer (some ⟨g2, 0, none⟩)), (1, q4)] := hS
  unfold W_reader_while at h
  refine wp_seq ?_
  refine wp_region_lit ?_
  refine st_val hS rfl rfl (by decide) (r_assign rfl (hS.ev_ (v := strV (([] : List UInt8))) rfl)) fun a hS => ?_
  refine st_done ?_
  replace hS : Slots 43 [] a [(4, strV (([] : List UInt8))), (0, Value.pointer (some ⟨g2, 0, none⟩)), (1, q4)] := (hS.part (.cons rfl (.cons rfl (.cons rfl (.nil _)))))
  refine x_then ?_
  refine wp_seq ?_
  refine wp_region_lit ?_
  refine st_val hS rfl rfl (by decide) (r_move rfl (hS.ev_ rfl)) fun a hS => ?_
  refine st_val hS rfl rfl (by decide) (r_nilCheck rfl (hS.ev_ rfl)) fun a hS => ?_
  refine st_val hS rfl rfl (by decide) (r_fld_b rfl fo_62_1 (hS.ev_ rfl)) fun a hS => ?_
  refine st_val hS rfl rfl (by decide) (r_ld1_b rfl ag_3 (hS.ev_ rfl) rfl (Rd.of hM)) fun a hS => ?_
  refine st_val hS rfl rfl (by decide) (r_assign rfl (hS.ev_ rfl)) fun a hS => ?_
  refine st_done ?_
  replace hS : Slots 43 [] a [(5, Value.int .i64 (p1.f_at)), (4, strV (([] : List UInt8))), (0, Value.pointer (some ⟨g2, 0, none⟩)), (1, q4)] := (hS.part (.cons rfl (.cons rfl (.cons rfl (.cons rfl (.nil _))))))
  refine x_then ?_
  refine wp_seq ?_
  refine wp_block ?_
  obtain ⟨o13, h14, h⟩ := bindO h
  refine c_loop_ways (fun e a w => (e = .exit 0 ∧ ∃ (K15 : Hp), Hp.le K K15 ∧ Slots 43 [] a [(0, Value.pointer (some ⟨g2, 0, none⟩)), (4, strV (([] : List UInt8))), (5, Value.int .i64 (p1.f_at))] ∧ Sat w0 w K15 (SP.blk g2 62 [strV (o13.1), Value.int .i64 (o13.2)] :: L))) ?_ ?_
  · intro c Q hc hQ
    have key : ∀ (x11 : List UInt8) (x12 : Int) (r' : (List UInt8) × Int), W_reader_while_l1 p3 x11 x12 = some r' → r' = o13 → ∀ (K10 : Hp) (a : Act) (w : World), Hp.le K K10 → Slots 43 [] a [(5, Value.int .i64 (p1.f_at)), (4, strV (([] : List UInt8))), (0, Value.pointer (some ⟨g2, 0, none⟩)), (1, q4)] → Sat w0 w K10 (SP.blk g2 62 [strV (x11), Value.int .i64 (x12)] :: L) → Rnd Tryd.prog c Q a w := by
      refine W_reader_while_l1.partial_correctness p3 _ ?_
      intro W_reader_while_l1_rec ih x11 x12 r' h hr K10  a w hlK10 hS hM 
      subst hc
      refine c_round ?_
      extract_lets k17 at h
      refine c_cut (fun a w => ∃ (K16 : Hp) (x18 : List UInt8) (x19 : Int), Hp.le K10 K16 ∧ k17 x18 x19 = some r' ∧ Slots 43 [] a [(0, Value.pointer (some ⟨g2, 0, none⟩)), (1, q4), (4, strV (([] : List UInt8))), (5, Value.int .i64 (p1.f_at))] ∧ Sat w0 w K16 (SP.blk g2 62 [strV (x18), Value.int .i64 (x19)] :: L)) ?_ ?_
      ·
        obtain ⟨x22, h23, h⟩ := bindO h
        refine c_cut (fun a w => ∃ (K21 : Hp), Hp.le K10 K21 ∧ Slots 43 [] a [(0, Value.pointer (some ⟨g2, 0, none⟩)), (1, q4), (4, strV (([] : List UInt8))), (5, Value.int .i64 (p1.f_at)), (25, Value.bool (x22.1))] ∧ Sat w0 w K21 (SP.blk g2 62 [strV (x22.2.1), Value.int .i64 (x22.2.2)] :: L)) ?_ ?_
        ·
          refine tk_start #[false, false, false, false, false, false, false, false, false, false, false, false, false, false, false, false] mixed_ rfl rfl ?_
          replace hM := hM.drew
          generalize w.drew = w at hM ⊢
          refine dk_any (i := 0) #[true, false, false, false, false, false, false, false, false, false, false, false, false, false, false, false] hS rfl (by kernel_rfl) rfl rfl (by decide) (fun w => r_move rfl (hS.ev_ rfl)) fun a hS => ?_
          obtain ⟨y24, h25, h23⟩ := bindO h23
          have hc27 := W_reader_ends_c hG h25 hM
          refine dk_one (i := 1) #[true, true, false, false, false, false, false, false, false, false, false, false, false, false, false, false] rfl (by kernel_rfl) rfl (e_call rfl Tryd.func29 rfl rfl (args1 (hS.ev_ rfl)) hc27 ?_)
          rintro _ w ⟨K26, hlK26, hM, rfl⟩
          refine ⟨_, rfl, ?_⟩
          refine pT hS rfl (by decide) Dem.nil fun a hS => ?_
          refine dk_any (i := 2) #[true, true, true, false, false, false, false, false, false, false, false, false, false, false, false, false] hS rfl (by kernel_rfl) rfl rfl (by decide) (fun w => r_not rfl (hS.ev_ rfl)) fun a hS => ?_
          refine dk_any (i := 3) #[true, true, true, true, false, false, false, false, false, false, false, false, false, false, false, false] hS rfl (by kernel_rfl) rfl rfl (by decide) (fun w => r_move rfl (hS.ev_ rfl)) fun a hS => ?_
          rcases ifB h23 with ⟨hc28, h23⟩ | ⟨hc28, h23⟩
          ·
            replace hS := hS.known (k := 13) rfl hc28
            refine dk_want (i := 4) (S := Rd w0 K26 []) #[true, true, true, true, true, false, false, false, false, false, false, false, false, false, false, false] hS rfl (by kernel_rfl) rfl rfl rfl rfl rfl (by decide) (Rd.of hM.nil_) (fun w hR => r_move rfl (hS.ev_ rfl)) fun a hS => ?_
            refine dk_want (i := 5) (S := Rd w0 K26 []) #[true, true, true, true, true, true, false, false, false, false, false, false, false, false, false, false] hS rfl (by kernel_rfl) rfl rfl rfl rfl rfl (by decide) (Rd.of hM.nil_) (fun w hR => r_move rfl (hS.ev_ rfl)) fun a hS => ?_
            refine dk_want (i := 6) (S := Rd w0 K26 []) #[true, true, true, true, true, true, true, false, false, false, false, false, false, false, false, false] hS rfl (by kernel_rfl) rfl rfl rfl rfl rfl (by decide) (Rd.of hM.nil_) (fun w hR => r_nilCheck rfl (hS.ev_ rfl)) fun a hS => ?_
            refine dk_want (i := 7) (S := Rd w0 K26 []) #[true, true, true, true, true, true, true, true, false, false, false, false, false, false, false, false] hS rfl (by kernel_rfl) rfl rfl rfl rfl rfl (by decide) (Rd.of hM.nil_) (fun w hR => r_fld_b rfl fo_62_0 (hS.ev_ rfl)) fun a hS => ?_
            refine dk_want (i := 8) (S := Rd w0 K26 [SP.blk g2 62 [strV (y24.2.f_s), Value.int .i64 (y24.2.f_at)]]) #[true, true, true, true, true, true, true, true, true, false, false, false, false, false, false, false] hS rfl (by kernel_rfl) rfl rfl rfl rfl rfl (by decide) (Rd.of hM.only) (fun w hR => r_ld1_b rfl ag_9 (hS.ev_ rfl) rfl hR) fun a hS => ?_
            refine dk_want (i := 9) (S := Rd w0 K26 []) #[true, true, true, true, true, true, true, true, true, true, false, false, false, false, false, false] hS rfl (by kernel_rfl) rfl rfl rfl rfl rfl (by decide) (Rd.of hM.nil_) (fun w hR => r_move rfl (hS.ev_ rfl)) fun a hS => ?_
            refine dk_want (i := 10) (S := Rd w0 K26 []) #[true, true, true, true, true, true, true, true, true, true, true, false, false, false, false, false] hS rfl (by kernel_rfl) rfl rfl rfl rfl rfl (by decide) (Rd.of hM.nil_) (fun w hR => r_nilCheck rfl (hS.ev_ rfl)) fun a hS => ?_
            refine dk_want (i := 11) (S := Rd w0 K26 []) #[true, true, true, true, true, true, true, true, true, true, true, true, false, false, false, false] hS rfl (by kernel_rfl) rfl rfl rfl rfl rfl (by decide) (Rd.of hM.nil_) (fun w hR => r_fld_b rfl fo_62_1 (hS.ev_ rfl)) fun a hS => ?_
            refine dk_want (i := 12) (S := Rd w0 K26 [SP.blk g2 62 [strV (y24.2.f_s), Value.int .i64 (y24.2.f_at)]]) #[true, true, true, true, true, true, true, true, true, true, true, true, true, false, false, false] hS rfl (by kernel_rfl) rfl rfl rfl rfl rfl (by decide) (Rd.of hM.only) (fun w hR => r_ld1_b rfl ag_3 (hS.ev_ rfl) rfl hR) fun a hS => ?_
            obtain ⟨c29, h30, h23⟩ := bindO h23
            refine dk_want (i := 13) (S := Rd w0 K26 []) #[true, true, true, true, true, true, true, true, true, true, true, true, true, true, false, false] hS rfl (by kernel_rfl) rfl rfl rfl rfl rfl (by decide) (Rd.of hM.nil_) (fun w hR => r_index_s rfl un_9 (hS.ev_ rfl) (hS.ev_ rfl) h30) fun a hS => ?_
            obtain ⟨y31, h32, h23⟩ := bindO h23
            obtain ⟨fi33, fn34, fc35, f1_36, f2_37, hv38, hf39, hn40, hb41, hc42⟩ := hf5
            refine dk_onew (i := 14) #[true, true, true, true, true, true, true, true, true, true, true, true, true, true, true, false] hS rfl (by kernel_rfl) rfl rfl rfl rfl (e_callv rfl ((hS.ev_ rfl).trans hv38) hf39 hn40 hb41 (args1 (hS.ev_ rfl)) (hc42 h32 hM) ?_)
            rintro _ w ⟨K43, hlK43, hM, rfl⟩
            refine ⟨_, rfl, ?_⟩
            refine pT hS rfl (by decide) (Dem.wait (by kernel_rfl) (Dem.wait (by kernel_rfl) (Dem.wait (by kernel_rfl) (Dem.wait (by kernel_rfl) (Dem.wait (by kernel_rfl) (Dem.wait (by kernel_rfl) (Dem.wait (by kernel_rfl) (Dem.wait (by kernel_rfl) (Dem.wait (by kernel_rfl) (Dem.wait (by kernel_rfl) Dem.nil)))))))))) fun a hS => ?_
            refine dk_any (i := 15) #[true, true, true, true, true, true, true, true, true, true, true, true, true, true, true, true] hS rfl (by kernel_rfl) rfl rfl (by decide) (fun w => r_pick_true rfl (hS.ev_ rfl) rfl (hS.ev_ rfl)) fun a hS => ?_
            refine tk_done (by kernel_rfl) ?_
            replace hS : Slots 43 [] a [(25, Value.bool (y31)), (5, Value.int .i64 (p1.f_at)), (4, strV (([] : List UInt8))), (0, Value.pointer (some ⟨g2, 0, none⟩)), (1, q4)] := (hS.part (.cons rfl (.cons rfl (.cons rfl (.cons rfl (.cons rfl (.nil _)))))))
            refine x_then ?_
            obtain rfl := Option.some.inj h23
            exact ⟨K43, (hlK26.trans hlK43), (hS.part (.cons rfl (.cons rfl (.cons rfl (.cons rfl (.cons rfl (.nil _))))))), hM⟩
          ·
            replace hS := hS.known (k := 13) rfl hc28
            refine dk_off (i := 4) (Rd w0 K26 []) #[true, true, true, true, true, false, false, false, false, false, false, false, false, false, false, false] hS rfl (by kernel_rfl) rfl rfl rfl rfl (.inl rfl) rfl (by decide) (Rd.of hM.nil_) fun a hS => ?_
            refine dk_off (i := 5) (Rd w0 K26 []) #[true, true, true, true, true, true, false, false, false, false, false, false, false, false, false, false] hS rfl (by kernel_rfl) rfl rfl rfl rfl (.inl rfl) rfl (by decide) (Rd.of hM.nil_) fun a hS => ?_
            refine dk_off (i := 6) (Rd w0 K26 []) #[true, true, true, true, true, true, true, false, false, false, false, false, false, false, false, false] hS rfl (by kernel_rfl) rfl rfl rfl rfl (.inl rfl) rfl (by decide) (Rd.of hM.nil_) fun a hS => ?_
            refine dk_off (i := 7) (Rd w0 K26 []) #[true, true, true, true, true, true, true, true, false, false, false, false, false, false, false, false] hS rfl (by kernel_rfl) rfl rfl rfl rfl (.inl rfl) rfl (by decide) (Rd.of hM.nil_) fun a hS => ?_
            refine dk_off (i := 8) (Rd w0 K26 []) #[true, true, true, true, true, true, true, true, true, false, false, false, false, false, false, false] hS rfl (by kernel_rfl) rfl rfl rfl rfl (.inl rfl) rfl (by decide) (Rd.of hM.nil_) fun a hS => ?_
            refine dk_off (i := 9) (Rd w0 K26 []) #[true, true, true, true, true, true, true, true, true, true, false, false, false, false, false, false] hS rfl (by kernel_rfl) rfl rfl rfl rfl (.inl rfl) rfl (by decide) (Rd.of hM.nil_) fun a hS => ?_
            refine dk_off (i := 10) (Rd w0 K26 []) #[true, true, true, true, true, true, true, true, true, true, true, false, false, false, false, false] hS rfl (by kernel_rfl) rfl rfl rfl rfl (.inl rfl) rfl (by decide) (Rd.of hM.nil_) fun a hS => ?_
            refine dk_off (i := 11) (Rd w0 K26 []) #[true, true, true, true, true, true, true, true, true, true, true, true, false, false, false, false] hS rfl (by kernel_rfl) rfl rfl rfl rfl (.inl rfl) rfl (by decide) (Rd.of hM.nil_) fun a hS => ?_
            refine dk_off (i := 12) (Rd w0 K26 []) #[true, true, true, true, true, true, true, true, true, true, true, true, true, false, false, false] hS rfl (by kernel_rfl) rfl rfl rfl rfl (.inl rfl) rfl (by decide) (Rd.of hM.nil_) fun a hS => ?_
            refine dk_off (i := 13) (Rd w0 K26 []) #[true, true, true, true, true, true, true, true, true, true, true, true, true, true, false, false] hS rfl (by kernel_rfl) rfl rfl rfl rfl (.inl rfl) rfl (by decide) (Rd.of hM.nil_) fun a hS => ?_
            refine dk_off (i := 14) (Rd w0 K26 []) #[true, true, true, true, true, true, true, true, true, true, true, true, true, true, true, false] hS rfl (by kernel_rfl) rfl rfl rfl rfl (.inl rfl) rfl (by decide) (Rd.of hM.nil_) fun a hS => ?_
            refine dk_any (i := 15) #[true, true, true, true, true, true, true, true, true, true, true, true, true, true, true, true] hS rfl (by kernel_rfl) rfl rfl (by decide) (fun w => r_pick_false rfl (hS.ev_ rfl) rfl (hS.ev_ rfl)) fun a hS => ?_
            refine tk_done (by kernel_rfl) ?_
            replace hS : Slots 43 [] a [(25, Value.bool (false)), (5, Value.int .i64 (p1.f_at)), (4, strV (([] : List UInt8))), (0, Value.pointer (some ⟨g2, 0, none⟩)), (1, q4)] := (hS.part (.cons rfl (.cons rfl (.cons rfl (.cons rfl (.cons rfl (.nil _)))))))
            refine x_then ?_
            obtain rfl := Option.some.inj h23
            exact ⟨K26, hlK26, (hS.part (.cons rfl (.cons rfl (.cons rfl (.cons rfl (.cons rfl (.nil _))))))), hM⟩
        · rintro a w ⟨K21, hlK21, hS, hM⟩
          rcases ifB h with ⟨hc44, h⟩ | ⟨hc44, h⟩
          · refine c_cond_true (hS.ev_ rfl) hc44 ?_
            refine wp_skip ?_
            refine x_then ?_
            exact ⟨K21, x22.2.1, x22.2.2, hlK21, h, (hS.part (.cons rfl (.cons rfl (.cons rfl (.cons rfl (.nil _)))))), hM⟩
          · refine c_cond_false (hS.ev_ rfl) hc44 ?_
            refine wp_exit ?_
            refine x_then_exit ?_
            refine x_then_exit ?_
            have ho' := (Option.some.inj h).trans hr
            refine hQ _ _ _ ?_
            subst ho'
            exact ⟨rfl, K21, (hlK10.trans hlK21), (hS.part (.cons rfl (.cons rfl (.cons rfl (.nil _))))), hM⟩
      · rintro a w ⟨K16, x18, x19, hlK16, h20, hS, hM⟩
        simp only [k17] at h20
        refine wp_block ?_
        refine wp_region_lit ?_
        refine st_val hS rfl rfl (by decide) (r_move rfl (hS.ev_ rfl)) fun a hS => ?_
        refine st_val hS rfl rfl (by decide) (r_nilCheck rfl (hS.ev_ rfl)) fun a hS => ?_
        refine st_val hS rfl rfl (by decide) (r_fld_b rfl fo_62_1 (hS.ev_ rfl)) fun a hS => ?_
        refine st_val hS rfl rfl (by decide) (r_ld1_b rfl ag_3 (hS.ev_ rfl) rfl (Rd.of hM)) fun a hS => ?_
        refine st_val hS rfl rfl (by decide) (r_add rfl (hS.ev_ rfl) (hS.ev_ rfl)) fun a hS => ?_
        refine st_val hS rfl rfl (by decide) (r_nilCheck rfl (hS.ev_ rfl)) fun a hS => ?_
        refine st_val hS rfl rfl (by decide) (r_fld_b rfl fo_62_1 (hS.ev_ rfl)) fun a hS => ?_
        refine wl_cons rfl (e_store1 hM rfl ti_3 (hS.ev_ rfl) (hS.ev_ rfl) rfl (Nat.lt_of_lt_of_le (Nat.le_of_ble_eq_true rfl) (Nat.le_refl _)) fun w hM => ?_)
        have hM : Sat w0 w K16 (SP.blk g2 62 [strV (x18), Value.int .i64 (w64 (x19 + 1))] :: L) := hM
        refine pl0 hS rfl fun a hS => ?_
        refine st_done ?_
        replace hS : Slots 43 [] a [(0, Value.pointer (some ⟨g2, 0, none⟩)), (1, q4), (4, strV (([] : List UInt8))), (5, Value.int .i64 (p1.f_at))] := (hS.part (.cons rfl (.cons rfl (.cons rfl (.cons rfl (.nil _))))))
        refine x_block ?_
        refine x_then ?_
        exact ih x18 (w64 (x19 + 1)) _ h20 hr K16 _ _ (hlK10.trans hlK16) (hS.part (.cons rfl (.cons rfl (.cons rfl (.cons rfl (.nil _)))))) (hM)
    exact key p1.f_s p1.f_at _ h14 rfl K _ _ (Hp.le.refl _) (hS.part (.cons rfl (.cons rfl (.cons rfl (.cons rfl (.nil _)))))) (hM)
  · rintro e a w ⟨rfl, K15, hlK15, hS, hM⟩
    refine x_block_here ?_
    refine x_then ?_
    refine wp_seq ?_
    refine tk_start #[false, false, false, false, false, false, false, false, false, false, false] mixed_ rfl rfl ?_
    replace hM := hM.drew
    generalize w.drew = w at hM ⊢
    refine dk_any (i := 0) #[true, false, false, false, false, false, false, false, false, false, false] hS rfl (by kernel_rfl) rfl rfl (by decide) (fun w => r_move rfl (hS.ev_ rfl)) fun a hS => ?_
    refine dk_any (i := 1) #[true, true, false, false, false, false, false, false, false, false, false] hS rfl (by kernel_rfl) rfl rfl (by decide) (fun w => r_nilCheck rfl (hS.ev_ rfl)) fun a hS => ?_
    refine dk_any (i := 2) #[true, true, true, false, false, false, false, false, false, false, false] hS rfl (by kernel_rfl) rfl rfl (by decide) (fun w => r_fld_b rfl fo_62_0 (hS.ev_ rfl)) fun a hS => ?_
    refine dk_val (i := 3) (S := Rd w0 K15 [SP.blk g2 62 [strV (o13.1), Value.int .i64 (o13.2)]]) #[true, true, true, true, false, false, false, false, false, false, false] hS rfl (by kernel_rfl) rfl rfl (by decide) (Rd.of hM.only) (fun w hR => r_ld1_b rfl ag_9 (hS.ev_ rfl) rfl hR) fun a hS => ?_
    refine dk_any (i := 4) #[true, true, true, true, true, false, false, false, false, false, false] hS rfl (by kernel_rfl) rfl rfl (by decide) (fun w => r_move rfl (hS.ev_ rfl)) fun a hS => ?_
    refine dk_any (i := 5) #[true, true, true, true, true, true, false, false, false, false, false] hS rfl (by kernel_rfl) rfl rfl (by decide) (fun w => r_move rfl (hS.ev_ rfl)) fun a hS => ?_
    refine dk_any (i := 6) #[true, true, true, true, true, true, true, false, false, false, false] hS rfl (by kernel_rfl) rfl rfl (by decide) (fun w => r_nilCheck rfl (hS.ev_ rfl)) fun a hS => ?_
    refine dk_any (i := 7) #[true, true, true, true, true, true, true, true, false, false, false] hS rfl (by kernel_rfl) rfl rfl (by decide) (fun w => r_fld_b rfl fo_62_1 (hS.ev_ rfl)) fun a hS => ?_
    refine dk_val (i := 8) (S := Rd w0 K15 [SP.blk g2 62 [strV (o13.1), Value.int .i64 (o13.2)]]) #[true, true, true, true, true, true, true, true, true, false, false] hS rfl (by kernel_rfl) rfl rfl (by decide) (Rd.of hM.only) (fun w hR => r_ld1_b rfl ag_3 (hS.ev_ rfl) rfl hR) fun a hS => ?_
    obtain ⟨s45, h46, h⟩ := bindO h
    refine dk_any (i := 9) #[true, true, true, true, true, true, true, true, true, true, false] hS rfl (by kernel_rfl) rfl rfl (by decide) (fun w => r_cut_s rfl un_9 (hS.ev_ rfl) (.inl (congrArg some (hS.ev_ rfl))) (.inl (congrArg some (hS.ev_ rfl))) h46) fun a hS => ?_
    refine dk_any (i := 10) #[true, true, true, true, true, true, true, true, true, true, true] hS rfl (by kernel_rfl) rfl rfl (by decide) (fun w => r_assign rfl (hS.ev_ rfl)) fun a hS => ?_
    refine tk_done (by kernel_rfl) ?_
    replace hS : Slots 43 [] a [(4, strV (s45))] := (hS.part (.cons rfl (.nil _)))
    refine x_then ?_
    refine wp_ret ?_
    have hr' := Option.some.inj h
    subst hr'
    refine ret1 (.inr rfl) hS rfl rfl ?_
    exact ⟨K15, hlK15, hM, rfl⟩

theorem W_reader_skip_1_c {w0 w : World} {K : Hp} {L : List SP} {p1 : UInt8} {r : Bool} (hG : Glob w0) (h : W_reader_skip_1 p1 = some r) (hM : Sat w0 w K (L)) :
    Calls Tryd.prog 37 #[Value.int .u8 (b8 (p1))] w (fun e w' => ∃ (K' : Hp), Hp.le K K' ∧ Sat w0 w' K' (L) ∧ e = .returned (Value.bool (r))) := by
  refine enter_ (n := 13) (args := [Value.int .u8 (b8 (p1))]) Tryd.func37 rfl rfl (Nat.le_of_ble_eq_true rfl) fun a hS => ?_
  replace hS : Slots 13 [] a [(0, Value.int .u8 (b8 (p1)))] := hS
  unfold W_reader_skip_1 at h
  refine wp_seq ?_
  refine wp_region_lit ?_
  refine st_val hS rfl rfl (by decide) (r_assign rfl (hS.ev_ rfl)) fun a hS => ?_
  refine st_done ?_
  replace hS : Slots 13 [] a [(2, Value.bool (false)), (0, Value.int .u8 (b8 (p1)))] := (hS.part (.cons rfl (.cons rfl (.nil _))))
  refine x_then ?_
  refine wp_seq ?_
  refine wp_region_lit ?_
  refine st_val hS rfl rfl (by decide) (r_move rfl (hS.ev_ rfl)) fun a hS => ?_
  refine st_val hS rfl rfl (by decide) (r_cmp8 rfl (hS.ev_ rfl) (hS.ev_ (v := Value.int .u8 (b8 (32))) rfl) rfl) fun a hS => ?_
  refine st_val hS rfl rfl (by decide) (r_move rfl (hS.ev_ rfl)) fun a hS => ?_
  obtain ⟨x2, h3, h⟩ := bindO h
  refine wl_cut 3 (fun a w => Slots 13 [] a [(0, Value.int .u8 (b8 (p1))), (2, Value.bool (false)), (8, Value.bool (x2))] ∧ Sat w0 w K (L)) ?_ ?_
  ·
    skip
    rcases ifB h3 with ⟨hc4, h3⟩ | ⟨hc4, h3⟩
    ·
      replace hS := hS.known (k := 5) rfl hc4
      refine st_off hS rfl rfl rfl rfl rfl rfl (by decide) fun a hS => ?_
      refine st_off hS rfl rfl rfl rfl rfl rfl (by decide) fun a hS => ?_
      refine st_val hS rfl rfl (by decide) (r_pick_true rfl (hS.ev_ rfl) rfl (hS.ev_ rfl)) fun a hS => ?_
      refine st_done ?_
      replace hS : Slots 13 [] a [(8, Value.bool (true)), (2, Value.bool (false)), (0, Value.int .u8 (b8 (p1)))] := (hS.part (.cons rfl (.cons rfl (.cons rfl (.nil _)))))
      refine x_then ?_
      obtain rfl := Option.some.inj h3
      exact ⟨(hS.part (.cons rfl (.cons rfl (.cons rfl (.nil _))))), hM⟩
    ·
      replace hS := hS.known (k := 5) rfl hc4
      refine st_want hS rfl rfl rfl rfl rfl (by decide) (r_move rfl (hS.ev_ rfl)) fun a hS => ?_
      refine st_want hS rfl rfl rfl rfl rfl (by decide) (r_cmp8 rfl (hS.ev_ rfl) (hS.ev_ (v := Value.int .u8 (b8 (9))) rfl) rfl) fun a hS => ?_
      refine st_val hS rfl rfl (by decide) (r_pick_false rfl (hS.ev_ rfl) rfl (hS.ev_ rfl)) fun a hS => ?_
      refine st_done ?_
      replace hS : Slots 13 [] a [(8, Value.bool (p1 == 9)), (2, Value.bool (false)), (0, Value.int .u8 (b8 (p1)))] := (hS.part (.cons rfl (.cons rfl (.cons rfl (.nil _)))))
      refine x_then ?_
      obtain rfl := Option.some.inj h3
      exact ⟨(hS.part (.cons rfl (.cons rfl (.cons rfl (.nil _))))), hM⟩
  · rintro a w ⟨hS, hM⟩
    refine st_val hS rfl rfl (by decide) (r_move rfl (hS.ev_ rfl)) fun a hS => ?_
    obtain ⟨x5, h6, h⟩ := bindO h
    refine wl_cut 3 (fun a w => Slots 13 [] a [(2, Value.bool (false)), (12, Value.bool (x5))] ∧ Sat w0 w K (L)) ?_ ?_
    ·
      skip
      rcases ifB h6 with ⟨hc7, h6⟩ | ⟨hc7, h6⟩
      ·
        replace hS := hS.known (k := 9) rfl hc7
        refine st_off hS rfl rfl rfl rfl rfl rfl (by decide) fun a hS => ?_
        refine st_off hS rfl rfl rfl rfl rfl rfl (by decide) fun a hS => ?_
        refine st_val hS rfl rfl (by decide) (r_pick_true rfl (hS.ev_ rfl) rfl (hS.ev_ rfl)) fun a hS => ?_
        refine st_done ?_
        replace hS : Slots 13 [] a [(12, Value.bool (true)), (2, Value.bool (false))] := (hS.part (.cons rfl (.cons rfl (.nil _))))
        refine x_then ?_
        obtain rfl := Option.some.inj h6
        exact ⟨(hS.part (.cons rfl (.cons rfl (.nil _)))), hM⟩
      ·
        replace hS := hS.known (k := 9) rfl hc7
        refine st_want hS rfl rfl rfl rfl rfl (by decide) (r_move rfl (hS.ev_ rfl)) fun a hS => ?_
        refine st_want hS rfl rfl rfl rfl rfl (by decide) (r_cmp8 rfl (hS.ev_ rfl) (hS.ev_ (v := Value.int .u8 (b8 (13))) rfl) rfl) fun a hS => ?_
        refine st_val hS rfl rfl (by decide) (r_pick_false rfl (hS.ev_ rfl) rfl (hS.ev_ rfl)) fun a hS => ?_
        refine st_done ?_
        replace hS : Slots 13 [] a [(12, Value.bool (p1 == 13)), (2, Value.bool (false))] := (hS.part (.cons rfl (.cons rfl (.nil _))))
        refine x_then ?_
        obtain rfl := Option.some.inj h6
        exact ⟨(hS.part (.cons rfl (.cons rfl (.nil _)))), hM⟩
    · rintro a w ⟨hS, hM⟩
      refine st_val hS rfl rfl (by decide) (r_assign rfl (hS.ev_ rfl)) fun a hS => ?_
      refine st_done ?_
      replace hS : Slots 13 [] a [(2, Value.bool (x5))] := (hS.part (.cons rfl (.nil _)))
      refine x_then ?_
      refine wp_ret ?_
      have hr' := Option.some.inj h
      subst hr'
      refine ret1 (.inr rfl) hS rfl rfl ?_
      exact ⟨K, (Hp.le.refl _), hM, rfl⟩

theorem W_reader_peek_c {w0 w : World} {K : Hp} {L : List SP} {p1 : W_reader} {p3 : Int} {g2 : Nat} {r : UInt8 × W_reader} (hG : Glob w0) (h : W_reader_peek p1 p3 = some r) (hM : Sat w0 w K (SP.blk g2 62 [strV (p1.f_s), Value.int .i64 (p1.f_at)] :: L)) :
    Calls Tryd.prog 38 #[Value.pointer (some ⟨g2, 0, none⟩), Value.int .i64 (p3)] w (fun e w' => ∃ (K' : Hp), Hp.le K K' ∧ Sat w0 w' K' (SP.blk g2 62 [strV (r.2.f_s), Value.int .i64 (r.2.f_at)] :: L) ∧ e = .returned (Value.int .u8 (b8 (r.1)))) := by
  refine enter_ (n := 28) (args := [Value.pointer (some ⟨g2, 0, none⟩), Value.int .i64 (p3)]) Tryd.func38 rfl rfl (Nat.le_of_ble_eq_true rfl) fun a hS => ?_
  replace hS : Slots 28 [] a [(0, Value.pointer (some ⟨g2, 0, none⟩)), (1, Value.int .i64 (p3))] := hS
  unfold W_reader_peek at h
  refine wp_seq ?_
  refine wp_region_lit ?_
  refine st_val hS rfl rfl (by decide) (r_assign rfl (hS.ev_ (v := Value.int .u8 (b8 (0))) rfl)) fun a hS => ?_
  refine st_done ?_
  replace hS : Slots 28 [] a [(4, Value.int .u8 (b8 (0))), (0, Value.pointer (some ⟨g2, 0, none⟩)), (1, Value.int .i64 (p3))] := (hS.part (.cons rfl (.cons rfl (.cons rfl (.nil _)))))
  refine x_then ?_
  refine wp_seq ?_
  refine wp_seq ?_
  refine tk_start #[false, false, false, false, false, false, false, false, false, false, false, false] mixed_ rfl rfl ?_
  replace hM := hM.drew
  generalize w.drew = w at hM ⊢
  refine dk_any (i := 0) #[true, false, false, false, false, false, false, false, false, false, false, false] hS rfl (by kernel_rfl) rfl rfl (by decide) (fun w => r_move rfl (hS.ev_ rfl)) fun a hS => ?_
  refine dk_any (i := 1) #[true, true, false, false, false, false, false, false, false, false, false, false] hS rfl (by kernel_rfl) rfl rfl (by decide) (fun w => r_nilCheck rfl (hS.ev_ rfl)) fun a hS => ?_
  refine dk_any (i := 2) #[true, true, true, false, false, false, false, false, false, false, false, false] hS rfl (by kernel_rfl) rfl rfl (by decide) (fun w => r_fld_b rfl fo_62_1 (hS.ev_ rfl)) fun a hS => ?_
  refine dk_val (i := 3) (S := Rd w0 K [SP.blk g2 62 [strV (p1.f_s), Value.int .i64 (p1.f_at)]]) #[true, true, true, true, false, false, false, false, false, false, false, false] hS rfl (by kernel_rfl) rfl rfl (by decide) (Rd.of hM.only) (fun w hR => r_ld1_b rfl ag_3 (hS.ev_ rfl) rfl hR) fun a hS => ?_
  refine dk_any (i := 4) #[true, true, true, true, true, false, false, false, false, false, false, false] hS rfl (by kernel_rfl) rfl rfl (by decide) (fun w => r_move rfl (hS.ev_ rfl)) fun a hS => ?_
  refine dk_any (i := 5) #[true, true, true, true, true, true, false, false, false, false, false, false] hS rfl (by kernel_rfl) rfl rfl (by decide) (fun w => r_add rfl (hS.ev_ rfl) (hS.ev_ rfl)) fun a hS => ?_
  refine dk_any (i := 6) #[true, true, true, true, true, true, true, false, false, false, false, false] hS rfl (by kernel_rfl) rfl rfl (by decide) (fun w => r_move rfl (hS.ev_ rfl)) fun a hS => ?_
  refine dk_any (i := 7) #[true, true, true, true, true, true, true, true, false, false, false, false] hS rfl (by kernel_rfl) rfl rfl (by decide) (fun w => r_nilCheck rfl (hS.ev_ rfl)) fun a hS => ?_
  refine dk_any (i := 8) #[true, true, true, true, true, true, true, true, true, false, false, false] hS rfl (by kernel_rfl) rfl rfl (by decide) (fun w => r_fld_b rfl fo_62_0 (hS.ev_ rfl)) fun a hS => ?_
  refine dk_val (i := 9) (S := Rd w0 K [SP.blk g2 62 [strV (p1.f_s), Value.int .i64 (p1.f_at)]]) #[true, true, true, true, true, true, true, true, true, true, false, false] hS rfl (by kernel_rfl) rfl rfl (by decide) (Rd.of hM.only) (fun w hR => r_ld1_b rfl ag_9 (hS.ev_ rfl) rfl hR) fun a hS => ?_
  refine dk_any (i := 10) #[true, true, true, true, true, true, true, true, true, true, true, false] hS rfl (by kernel_rfl) rfl rfl (by decide) (fun w => r_len_str rfl un_9 (hS.ev_ rfl)) fun a hS => ?_
  refine dk_any (i := 11) #[true, true, true, true, true, true, true, true, true, true, true, true] hS rfl (by kernel_rfl) rfl rfl (by decide) (fun w => r_cmp rfl (hS.ev_ rfl) (hS.ev_ rfl) rfl) fun a hS => ?_
  refine tk_done (by kernel_rfl) ?_
  replace hS : Slots 28 [] a [(16, Value.bool (decide ((w64 (p1.f_at + p3)) ≥ ((p1.f_s.length : Int))))), (4, Value.int .u8 (b8 (0))), (0, Value.pointer (some ⟨g2, 0, none⟩)), (1, Value.int .i64 (p3))] := (hS.part (.cons rfl (.cons rfl (.cons rfl (.cons rfl (.nil _))))))
  refine x_then ?_
  rcases ifB h with ⟨hc4, h⟩ | ⟨hc4, h⟩
  · refine c_cond_true (hS.ev_ rfl) hc4 ?_
    refine wp_seq ?_
    refine wp_region_lit ?_
    refine st_val hS rfl rfl (by decide) (r_assign rfl (hS.ev_ (v := Value.int .u8 (b8 (0))) rfl)) fun a hS => ?_
    refine st_done ?_
    replace hS : Slots 28 [] a [(4, Value.int .u8 (b8 (0))), (0, Value.pointer (some ⟨g2, 0, none⟩)), (1, Value.int .i64 (p3))] := (hS.part (.cons rfl (.cons rfl (.cons rfl (.nil _)))))
    refine x_then ?_
    refine wp_ret ?_
    refine x_then_ret ?_
    have hr' := Option.some.inj h
    subst hr'
    refine ret1 (.inr rfl) hS rfl rfl ?_
    exact ⟨K, (Hp.le.refl _), hM, rfl⟩
  · refine c_cond_false (hS.ev_ rfl) hc4 ?_
    refine wp_skip ?_
    refine x_then ?_
    refine wp_seq ?_
    refine tk_start #[false, false, false, false, false, false, false, false, false, false, false, false] mixed_ rfl rfl ?_
    replace hM := hM.drew
    generalize w.drew = w at hM ⊢
    refine dk_any (i := 0) #[true, false, false, false, false, false, false, false, false, false, false, false] hS rfl (by kernel_rfl) rfl rfl (by decide) (fun w => r_move rfl (hS.ev_ rfl)) fun a hS => ?_
    refine dk_any (i := 1) #[true, true, false, false, false, false, false, false, false, false, false, false] hS rfl (by kernel_rfl) rfl rfl (by decide) (fun w => r_nilCheck rfl (hS.ev_ rfl)) fun a hS => ?_
    refine dk_any (i := 2) #[true, true, true, false, false, false, false, false, false, false, false, false] hS rfl (by kernel_rfl) rfl rfl (by decide) (fun w => r_fld_b rfl fo_62_0 (hS.ev_ rfl)) fun a hS => ?_
    refine dk_val (i := 3) (S := Rd w0 K [SP.blk g2 62 [strV (p1.f_s), Value.int .i64 (p1.f_at)]]) #[true, true, true, true, false, false, false, false, false, false, false, false] hS rfl (by kernel_rfl) rfl rfl (by decide) (Rd.of hM.only) (fun w hR => r_ld1_b rfl ag_9 (hS.ev_ rfl) rfl hR) fun a hS => ?_
    refine dk_any (i := 4) #[true, true, true, true, true, false, false, false, false, false, false, false] hS rfl (by kernel_rfl) rfl rfl (by decide) (fun w => r_move rfl (hS.ev_ rfl)) fun a hS => ?_
    refine dk_any (i := 5) #[true, true, true, true, true, true, false, false, false, false, false, false] hS rfl (by kernel_rfl) rfl rfl (by decide) (fun w => r_nilCheck rfl (hS.ev_ rfl)) fun a hS => ?_
    refine dk_any (i := 6) #[true, true, true, true, true, true, true, false, false, false, false, false] hS rfl (by kernel_rfl) rfl rfl (by decide) (fun w => r_fld_b rfl fo_62_1 (hS.ev_ rfl)) fun a hS => ?_
    refine dk_val (i := 7) (S := Rd w0 K [SP.blk g2 62 [strV (p1.f_s), Value.int .i64 (p1.f_at)]]) #[true, true, true, true, true, true, true, true, false, false, false, false] hS rfl (by kernel_rfl) rfl rfl (by decide) (Rd.of hM.only) (fun w hR => r_ld1_b rfl ag_3 (hS.ev_ rfl) rfl hR) fun a hS => ?_
    refine dk_any (i := 8) #[true, true, true, true, true, true, true, true, true, false, false, false] hS rfl (by kernel_rfl) rfl rfl (by decide) (fun w => r_move rfl (hS.ev_ rfl)) fun a hS => ?_
    refine dk_any (i := 9) #[true, true, true, true, true, true, true, true, true, true, false, false] hS rfl (by kernel_rfl) rfl rfl (by decide) (fun w => r_add rfl (hS.ev_ rfl) (hS.ev_ rfl)) fun a hS => ?_
    obtain ⟨c5, h6, h⟩ := bindO h
    refine dk_any (i := 10) #[true, true, true, true, true, true, true, true, true, true, true, false] hS rfl (by kernel_rfl) rfl rfl (by decide) (fun w => r_index_s rfl un_9 (hS.ev_ rfl) (hS.ev_ rfl) h6) fun a hS => ?_
    refine dk_any (i := 11) #[true, true, true, true, true, true, true, true, true, true, true, true] hS rfl (by kernel_rfl) rfl rfl (by decide) (fun w => r_assign rfl (hS.ev_ rfl)) fun a hS => ?_
    refine tk_done (by kernel_rfl) ?_
    replace hS : Slots 28 [] a [(4, Value.int .u8 (b8 (c5)))] := (hS.part (.cons rfl (.nil _)))
    refine x_then ?_
    refine wp_ret ?_
    have hr' := Option.some.inj h
    subst hr'
    refine ret1 (.inr rfl) hS rfl rfl ?_
    exact ⟨K, (Hp.le.refl _), hM, rfl⟩

theorem W_reader_skip_2_c {w0 w : World} {K : Hp} {L : List SP} {p1 : UInt8} {r : Bool} (hG : Glob w0) (h : W_reader_skip_2 p1 = some r) (hM : Sat w0 w K (L)) :
    Calls Tryd.prog 39 #[Value.int .u8 (b8 (p1))] w (fun e w' => ∃ (K' : Hp), Hp.le K K' ∧ Sat w0 w' K' (L) ∧ e = .returned (Value.bool (r))) := by
  refine enter_ (n := 5) (args := [Value.int .u8 (b8 (p1))]) Tryd.func39 rfl rfl (Nat.le_of_ble_eq_true rfl) fun a hS => ?_
  replace hS : Slots 5 [] a [(0, Value.int .u8 (b8 (p1)))] := hS
  unfold W_reader_skip_2 at h
  refine wp_seq ?_
  refine wp_region_lit ?_
  refine st_val hS rfl rfl (by decide) (r_assign rfl (hS.ev_ rfl)) fun a hS => ?_
  refine st_done ?_
  replace hS : Slots 5 [] a [(2, Value.bool (false)), (0, Value.int .u8 (b8 (p1)))] := (hS.part (.cons rfl (.cons rfl (.nil _))))
  refine x_then ?_
  refine wp_seq ?_
  refine wp_region_lit ?_
  refine st_val hS rfl rfl (by decide) (r_move rfl (hS.ev_ rfl)) fun a hS => ?_
  refine st_val hS rfl rfl (by decide) (r_cmp8 rfl (hS.ev_ rfl) (hS.ev_ (v := Value.int .u8 (b8 (10))) rfl) rfl) fun a hS => ?_
  refine st_val hS rfl rfl (by decide) (r_assign rfl (hS.ev_ rfl)) fun a hS => ?_
  refine st_done ?_
  replace hS : Slots 5 [] a [(2, Value.bool (p1 != 10))] := (hS.part (.cons rfl (.nil _)))
  refine x_then ?_
  refine wp_ret ?_
  have hr' := Option.some.inj h
  subst hr'
  refine ret1 (.inr rfl) hS rfl rfl ?_
  exact ⟨K, (Hp.le.refl _), hM, rfl⟩

theorem W_reader_skip_c {w0 w : World} {K : Hp} {L : List SP} {p1 : W_reader} {g2 : Nat} {r : W_reader} (hG : Glob w0) (h : W_reader_skip p1 = some r) (hM : Sat w0 w K (SP.blk g2 62 [strV (p1.f_s), Value.int .i64 (p1.f_at)] :: L)) :
    Calls Tryd.prog 28 #[Value.pointer (some ⟨g2, 0, none⟩)] w (fun e w' => ∃ (K' : Hp), Hp.le K K' ∧ Sat w0 w' K' (SP.blk g2 62 [strV (r.f_s), Value.int .i64 (r.f_at)] :: L) ∧ e = .returned (Value.tuple #[])) := by
  refine enter_ (n := 9) (args := [Value.pointer (some ⟨g2, 0, none⟩)]) Tryd.func28 rfl rfl (Nat.le_of_ble_eq_true rfl) fun a hS => ?_
  replace hS : Slots 9 [] a [(0, Value.pointer (some ⟨g2, 0, none⟩))] := hS
  unfold W_reader_skip at h
  obtain ⟨o10, h11, h⟩ := bindO h
  refine c_scope_ways (fun e a w => (e = .normal ∧ ∃ (K12 : Hp), Hp.le K K12 ∧ Slots 9 [] a [] ∧ Sat w0 w K12 (SP.blk g2 62 [strV (o10.1), Value.int .i64 (o10.2)] :: L))) ?_ ?_
  · intro S c Q hs hc hQ
    have key : ∀ (x8 : List UInt8) (x9 : Int) (r' : (List UInt8) × Int), W_reader_skip_l1 x8 x9 = some r' → r' = o10 → ∀ (K7 : Hp) (a : Act) (w : World), Hp.le K K7 → Slots 9 [] a [(0, Value.pointer (some ⟨g2, 0, none⟩))] → Sat w0 w K7 (SP.blk g2 62 [strV (x8), Value.int .i64 (x9)] :: L) → Scp Tryd.prog S c Q a w := by
      refine W_reader_skip_l1.partial_correctness _ ?_
      intro W_reader_skip_l1_rec ih x8 x9 r' h hr K7  a w hlK7 hS hM 
      subst hc; subst hs
      refine c_scp ?_
      refine wp_seq ?_
      refine wp_region_lit ?_
      refine st_val hS rfl rfl (by decide) (r_move rfl (hS.ev_ rfl)) fun a hS => ?_
      obtain ⟨y13, h14, h⟩ := bindO h
      have hc16 := W_reader_while_c hG h14 ⟨37, _, _, #[], #[], rfl, Tryd.func37, rfl, rfl, fun h hM => by simpa only [Array.empty_append, Array.append_empty] using W_reader_skip_1_c hG h hM⟩ hM
      refine wl_cons rfl (e_call rfl Tryd.func36 rfl rfl (args2 (hS.ev_ rfl) (hS.ev_ rfl)) hc16 ?_)
      rintro _ w ⟨K15, hlK15, hM, rfl⟩
      refine ⟨_, rfl, ?_⟩
      refine pl hS rfl (by decide) fun a hS => ?_
      refine st_done ?_
      replace hS : Slots 9 [] a [(0, Value.pointer (some ⟨g2, 0, none⟩))] := (hS.part (.cons rfl (.nil _)))
      refine x_then ?_
      refine wp_seq ?_
      refine wp_region_lit ?_
      refine st_val hS rfl rfl (by decide) (r_move rfl (hS.ev_ rfl)) fun a hS => ?_
      obtain ⟨y17, h18, h⟩ := bindO h
      have hc20 := W_reader_peek_c hG h18 hM
      refine wl_cons rfl (e_call rfl Tryd.func38 rfl rfl (args2 (hS.ev_ rfl) (hS.ev_ rfl)) hc20 ?_)
      rintro _ w ⟨K19, hlK19, hM, rfl⟩
      refine ⟨_, rfl, ?_⟩
      refine pl hS rfl (by decide) fun a hS => ?_
      refine st_val hS rfl rfl (by decide) (r_cmp8 rfl (hS.ev_ rfl) (hS.ev_ (v := Value.int .u8 (b8 (35))) rfl) rfl) fun a hS => ?_
      refine st_done ?_
      replace hS : Slots 9 [] a [(6, Value.bool (y17.1 == 35)), (0, Value.pointer (some ⟨g2, 0, none⟩))] := (hS.part (.cons rfl (.cons rfl (.nil _))))
      refine x_then ?_
      rcases ifB h with ⟨hc21, h⟩ | ⟨hc21, h⟩
      · refine c_cond_true (hS.ev_ rfl) hc21 ?_
        refine wp_seq ?_
        refine wp_region_lit ?_
        refine st_val hS rfl rfl (by decide) (r_move rfl (hS.ev_ rfl)) fun a hS => ?_
        obtain ⟨y22, h23, h⟩ := bindO h
        have hc25 := W_reader_while_c hG h23 ⟨39, _, _, #[], #[], rfl, Tryd.func39, rfl, rfl, fun h hM => by simpa only [Array.empty_append, Array.append_empty] using W_reader_skip_2_c hG h hM⟩ hM
        refine wl_cons rfl (e_call rfl Tryd.func36 rfl rfl (args2 (hS.ev_ rfl) (hS.ev_ rfl)) hc25 ?_)
        rintro _ w ⟨K24, hlK24, hM, rfl⟩
        refine ⟨_, rfl, ?_⟩
        refine pl hS rfl (by decide) fun a hS => ?_
        refine st_done ?_
        replace hS : Slots 9 [] a [(0, Value.pointer (some ⟨g2, 0, none⟩))] := (hS.part (.cons rfl (.nil _)))
        refine x_then ?_
        refine wp_goto ?_
        refine x_scope_goto' (b := _) rfl ?_
        exact ih y22.2.f_s y22.2.f_at _ h hr K24 _ _ (((hlK7.trans hlK15).trans hlK19).trans hlK24) (hS.part (.cons rfl (.nil _))) (hM)
      · refine c_cond_false (hS.ev_ rfl) hc21 ?_
        refine wp_skip ?_
        refine x_scope ?_
        have ho' := (Option.some.inj h).trans hr
        refine hQ _ _ _ ?_
        subst ho'
        exact ⟨rfl, K19, ((hlK7.trans hlK15).trans hlK19), (hS.part (.nil _)), hM⟩
    exact key p1.f_s p1.f_at _ h11 rfl K _ _ (Hp.le.refl _) (hS.part (.cons rfl (.nil _))) (hM)
  · rintro e a w ⟨rfl, K12, hlK12, hS, hM⟩
    have hr' := Option.some.inj h
    subst hr'
    refine ret0 (.inl rfl) hS rfl  ?_
    exact ⟨K12, hlK12, hM, rfl⟩

theorem W_begins_c {w0 w : World} {K : Hp} {L : List SP} {p1 : UInt8} {r : Bool} (hG : Glob w0) (h : W_begins p1 = some r) (hM : Sat w0 w K (L)) :
    Calls Tryd.prog 23 #[Value.int .u8 (b8 (p1))] w (fun e w' => ∃ (K' : Hp), Hp.le K K' ∧ Sat w0 w' K' (L) ∧ e = .returned (Value.bool (r))) := by
  refine enter_ (n := 21) (args := [Value.int .u8 (b8 (p1))]) Tryd.func23 rfl rfl (Nat.le_of_ble_eq_true rfl) fun a hS => ?_
  replace hS : Slots 21 [] a [(0, Value.int .u8 (b8 (p1)))] := hS
  unfold W_begins at h
  refine wp_seq ?_
  refine wp_region_lit ?_
  refine st_val hS rfl rfl (by decide) (r_assign rfl (hS.ev_ rfl)) fun a hS => ?_
  refine st_done ?_
  replace hS : Slots 21 [] a [(2, Value.bool (false)), (0, Value.int .u8 (b8 (p1)))] := (hS.part (.cons rfl (.cons rfl (.nil _))))
  refine x_then ?_
  refine wp_seq ?_
  refine wp_region_lit ?_
  refine st_val hS rfl rfl (by decide) (r_move rfl (hS.ev_ rfl)) fun a hS => ?_
  refine st_val hS rfl rfl (by decide) (r_cmp8 rfl (hS.ev_ rfl) (hS.ev_ (v := Value.int .u8 (b8 (97))) rfl) rfl) fun a hS => ?_
  refine st_val hS rfl rfl (by decide) (r_move rfl (hS.ev_ rfl)) fun a hS => ?_
  obtain ⟨x2, h3, h⟩ := bindO h
  refine wl_cut 3 (fun a w => Slots 21 [] a [(0, Value.int .u8 (b8 (p1))), (2, Value.bool (false)), (8, Value.bool (x2))] ∧ Sat w0 w K (L)) ?_ ?_
  ·
    skip
    rcases ifB h3 with ⟨hc4, h3⟩ | ⟨hc4, h3⟩
    ·
      replace hS := hS.known (k := 5) rfl hc4
      refine st_want hS rfl rfl rfl rfl rfl (by decide) (r_move rfl (hS.ev_ rfl)) fun a hS => ?_
      refine st_want hS rfl rfl rfl rfl rfl (by decide) (r_cmp8 rfl (hS.ev_ rfl) (hS.ev_ (v := Value.int .u8 (b8 (122))) rfl) rfl) fun a hS => ?_
      refine st_val hS rfl rfl (by decide) (r_pick_true rfl (hS.ev_ rfl) rfl (hS.ev_ rfl)) fun a hS => ?_
      refine st_done ?_
      replace hS : Slots 21 [] a [(8, Value.bool (decide (p1 ≤ 122))), (2, Value.bool (false)), (0, Value.int .u8 (b8 (p1)))] := (hS.part (.cons rfl (.cons rfl (.cons rfl (.nil _)))))
      refine x_then ?_
      obtain rfl := Option.some.inj h3
      exact ⟨(hS.part (.cons rfl (.cons rfl (.cons rfl (.nil _))))), hM⟩
    ·
      replace hS := hS.known (k := 5) rfl hc4
      refine st_off hS rfl rfl rfl rfl rfl rfl (by decide) fun a hS => ?_
      refine st_off hS rfl rfl rfl rfl rfl rfl (by decide) fun a hS => ?_
      refine st_val hS rfl rfl (by decide) (r_pick_false rfl (hS.ev_ rfl) rfl (hS.ev_ rfl)) fun a hS => ?_
      refine st_done ?_
      replace hS : Slots 21 [] a [(8, Value.bool (false)), (2, Value.bool (false)), (0, Value.int .u8 (b8 (p1)))] := (hS.part (.cons rfl (.cons rfl (.cons rfl (.nil _)))))
      refine x_then ?_
      obtain rfl := Option.some.inj h3
      exact ⟨(hS.part (.cons rfl (.cons rfl (.cons rfl (.nil _))))), hM⟩
  · rintro a w ⟨hS, hM⟩
    refine st_val hS rfl rfl (by decide) (r_move rfl (hS.ev_ rfl)) fun a hS => ?_
    obtain ⟨x5, h6, h⟩ := bindO h
    refine wl_cut 7 (fun a w => Slots 21 [] a [(0, Value.int .u8 (b8 (p1))), (2, Value.bool (false)), (16, Value.bool (x5))] ∧ Sat w0 w K (L)) ?_ ?_
    ·
      skip
      rcases ifB h6 with ⟨hc7, h6⟩ | ⟨hc7, h6⟩
      ·
        replace hS := hS.known (k := 9) rfl hc7
        refine st_off hS rfl rfl rfl rfl rfl rfl (by decide) fun a hS => ?_
        refine st_off hS rfl rfl rfl rfl rfl rfl (by decide) fun a hS => ?_
        refine st_off hS rfl rfl rfl rfl rfl rfl (by decide) fun a hS => ?_
        refine st_off_undef hS rfl rfl rfl rfl rfl (by decide) fun a hS => ?_
        refine st_off_undef hS rfl rfl rfl rfl rfl (by decide) fun a hS => ?_
        refine st_off hS rfl rfl rfl rfl rfl rfl (by decide) fun a hS => ?_
        refine st_val hS rfl rfl (by decide) (r_pick_true rfl (hS.ev_ rfl) rfl (hS.ev_ rfl)) fun a hS => ?_
        refine st_done ?_
        replace hS : Slots 21 [] a [(16, Value.bool (true)), (0, Value.int .u8 (b8 (p1))), (2, Value.bool (false))] := (hS.part (.cons rfl (.cons rfl (.cons rfl (.nil _)))))
        refine x_then ?_
        obtain rfl := Option.some.inj h6
        exact ⟨(hS.part (.cons rfl (.cons rfl (.cons rfl (.nil _))))), hM⟩
      ·
        replace hS := hS.known (k := 9) rfl hc7
        refine st_want hS rfl rfl rfl rfl rfl (by decide) (r_move rfl (hS.ev_ rfl)) fun a hS => ?_
        refine st_want hS rfl rfl rfl rfl rfl (by decide) (r_cmp8 rfl (hS.ev_ rfl) (hS.ev_ (v := Value.int .u8 (b8 (65))) rfl) rfl) fun a hS => ?_
        refine st_want hS rfl rfl rfl rfl rfl (by decide) (r_move rfl (hS.ev_ rfl)) fun a hS => ?_
        obtain ⟨x8, h9, h6⟩ := bindO h6
        refine wl_cut 3 (fun a w => Slots 21 [] a [(0, Value.int .u8 (b8 (p1))), (2, Value.bool (false)), (9, Value.bool (false)), (15, Value.bool (x8))] ∧ Sat w0 w K (L)) ?_ ?_
        ·
          skip
          rcases ifB h9 with ⟨hc10, h9⟩ | ⟨hc10, h9⟩
          ·
            replace hS := hS.known (k := 12) rfl hc10
            refine st_want hS rfl rfl rfl rfl rfl (by decide) (r_move rfl (hS.ev_ rfl)) fun a hS => ?_
            refine st_want hS rfl rfl rfl rfl rfl (by decide) (r_cmp8 rfl (hS.ev_ rfl) (hS.ev_ (v := Value.int .u8 (b8 (90))) rfl) rfl) fun a hS => ?_
            refine st_want hS rfl rfl rfl rfl rfl (by decide) (r_pick_true rfl (hS.ev_ rfl) rfl (hS.ev_ rfl)) fun a hS => ?_
            refine st_done ?_
            replace hS : Slots 21 [] a [(15, Value.bool (decide (p1 ≤ 90))), (9, Value.bool (false)), (0, Value.int .u8 (b8 (p1))), (2, Value.bool (false))] := (hS.part (.cons rfl (.cons rfl (.cons rfl (.cons rfl (.nil _))))))
            refine x_then ?_
            obtain rfl := Option.some.inj h9
            exact ⟨(hS.part (.cons rfl (.cons rfl (.cons rfl (.cons rfl (.nil _)))))), hM⟩
          ·
            replace hS := hS.known (k := 12) rfl hc10
            refine st_off hS rfl rfl rfl rfl rfl rfl (by decide) fun a hS => ?_
            refine st_off hS rfl rfl rfl rfl rfl rfl (by decide) fun a hS => ?_
            refine st_want hS rfl rfl rfl rfl rfl (by decide) (r_pick_false rfl (hS.ev_ rfl) rfl (hS.ev_ rfl)) fun a hS => ?_
            refine st_done ?_
            replace hS : Slots 21 [] a [(15, Value.bool (false)), (9, Value.bool (false)), (0, Value.int .u8 (b8 (p1))), (2, Value.bool (false))] := (hS.part (.cons rfl (.cons rfl (.cons rfl (.cons rfl (.nil _))))))
            refine x_then ?_
            obtain rfl := Option.some.inj h9
            exact ⟨(hS.part (.cons rfl (.cons rfl (.cons rfl (.cons rfl (.nil _)))))), hM⟩
        · rintro a w ⟨hS, hM⟩
          refine st_val hS rfl rfl (by decide) (r_pick_false rfl (hS.ev_ rfl) rfl (hS.ev_ rfl)) fun a hS => ?_
          refine st_done ?_
          replace hS : Slots 21 [] a [(16, Value.bool (x8)), (0, Value.int .u8 (b8 (p1))), (2, Value.bool (false))] := (hS.part (.cons rfl (.cons rfl (.cons rfl (.nil _)))))
          refine x_then ?_
          obtain rfl := Option.some.inj h6
          exact ⟨(hS.part (.cons rfl (.cons rfl (.cons rfl (.nil _))))), hM⟩
    · rintro a w ⟨hS, hM⟩
      refine st_val hS rfl rfl (by decide) (r_move rfl (hS.ev_ rfl)) fun a hS => ?_
      obtain ⟨x11, h12, h⟩ := bindO h
      refine wl_cut 3 (fun a w => Slots 21 [] a [(2, Value.bool (false)), (20, Value.bool (x11))] ∧ Sat w0 w K (L)) ?_ ?_
      ·
        skip
        rcases ifB h12 with ⟨hc13, h12⟩ | ⟨hc13, h12⟩
        ·
          replace hS := hS.known (k := 17) rfl hc13
          refine st_off hS rfl rfl rfl rfl rfl rfl (by decide) fun a hS => ?_
          refine st_off hS rfl rfl rfl rfl rfl rfl (by decide) fun a hS => ?_
          refine st_val hS rfl rfl (by decide) (r_pick_true rfl (hS.ev_ rfl) rfl (hS.ev_ rfl)) fun a hS => ?_
          refine st_done ?_
          replace hS : Slots 21 [] a [(20, Value.bool (true)), (2, Value.bool (false))] := (hS.part (.cons rfl (.cons rfl (.nil _))))
          refine x_then ?_
          obtain rfl := Option.some.inj h12
          exact ⟨(hS.part (.cons rfl (.cons rfl (.nil _)))), hM⟩
        ·
          replace hS := hS.known (k := 17) rfl hc13
          refine st_want hS rfl rfl rfl rfl rfl (by decide) (r_move rfl (hS.ev_ rfl)) fun a hS => ?_
          refine st_want hS rfl rfl rfl rfl rfl (by decide) (r_cmp8 rfl (hS.ev_ rfl) (hS.ev_ (v := Value.int .u8 (b8 (95))) rfl) rfl) fun a hS => ?_
          refine st_val hS rfl rfl (by decide) (r_pick_false rfl (hS.ev_ rfl) rfl (hS.ev_ rfl)) fun a hS => ?_
          refine st_done ?_
          replace hS : Slots 21 [] a [(20, Value.bool (p1 == 95)), (2, Value.bool (false))] := (hS.part (.cons rfl (.cons rfl (.nil _))))
          refine x_then ?_
          obtain rfl := Option.some.inj h12
          exact ⟨(hS.part (.cons rfl (.cons rfl (.nil _)))), hM⟩
      · rintro a w ⟨hS, hM⟩
        refine st_val hS rfl rfl (by decide) (r_assign rfl (hS.ev_ rfl)) fun a hS => ?_
        refine st_done ?_
        replace hS : Slots 21 [] a [(2, Value.bool (x11))] := (hS.part (.cons rfl (.nil _)))
        refine x_then ?_
        refine wp_ret ?_
        have hr' := Option.some.inj h
        subst hr'
        refine ret1 (.inr rfl) hS rfl rfl ?_
        exact ⟨K, (Hp.le.refl _), hM, rfl⟩

theorem W_figure_c {w0 w : World} {K : Hp} {L : List SP} {p1 : UInt8} {r : Bool} (hG : Glob w0) (h : W_figure p1 = some r) (hM : Sat w0 w K (L)) :
    Calls Tryd.prog 32 #[Value.int .u8 (b8 (p1))] w (fun e w' => ∃ (K' : Hp), Hp.le K K' ∧ Sat w0 w' K' (L) ∧ e = .returned (Value.bool (r))) := by
  refine enter_ (n := 9) (args := [Value.int .u8 (b8 (p1))]) Tryd.func32 rfl rfl (Nat.le_of_ble_eq_true rfl) fun a hS => ?_
  replace hS : Slots 9 [] a [(0, Value.int .u8 (b8 (p1)))] := hS
  unfold W_figure at h
  refine wp_seq ?_
  refine wp_region_lit ?_
  refine st_val hS rfl rfl (by decide) (r_assign rfl (hS.ev_ rfl)) fun a hS => ?_
  refine st_done ?_
  replace hS : Slots 9 [] a [(2, Value.bool (false)), (0, Value.int .u8 (b8 (p1)))] := (hS.part (.cons rfl (.cons rfl (.nil _))))
  refine x_then ?_
  refine wp_seq ?_
  refine wp_region_lit ?_
  refine st_val hS rfl rfl (by decide) (r_move rfl (hS.ev_ rfl)) fun a hS => ?_
  refine st_val hS rfl rfl (by decide) (r_cmp8 rfl (hS.ev_ rfl) (hS.ev_ (v := Value.int .u8 (b8 (48))) rfl) rfl) fun a hS => ?_
  refine st_val hS rfl rfl (by decide) (r_move rfl (hS.ev_ rfl)) fun a hS => ?_
  obtain ⟨x2, h3, h⟩ := bindO h
  refine wl_cut 3 (fun a w => Slots 9 [] a [(2, Value.bool (false)), (8, Value.bool (x2))] ∧ Sat w0 w K (L)) ?_ ?_
  ·
    skip
    rcases ifB h3 with ⟨hc4, h3⟩ | ⟨hc4, h3⟩
    ·
      replace hS := hS.known (k := 5) rfl hc4
      refine st_want hS rfl rfl rfl rfl rfl (by decide) (r_move rfl (hS.ev_ rfl)) fun a hS => ?_
      refine st_want hS rfl rfl rfl rfl rfl (by decide) (r_cmp8 rfl (hS.ev_ rfl) (hS.ev_ (v := Value.int .u8 (b8 (57))) rfl) rfl) fun a hS => ?_
      refine st_val hS rfl rfl (by decide) (r_pick_true rfl (hS.ev_ rfl) rfl (hS.ev_ rfl)) fun a hS => ?_
      refine st_done ?_
      replace hS : Slots 9 [] a [(8, Value.bool (decide (p1 ≤ 57))), (2, Value.bool (false))] := (hS.part (.cons rfl (.cons rfl (.nil _))))
      refine x_then ?_
      obtain rfl := Option.some.inj h3
      exact ⟨(hS.part (.cons rfl (.cons rfl (.nil _)))), hM⟩
    ·
      replace hS := hS.known (k := 5) rfl hc4
      refine st_off hS rfl rfl rfl rfl rfl rfl (by decide) fun a hS => ?_
      refine st_off hS rfl rfl rfl rfl rfl rfl (by decide) fun a hS => ?_
      refine st_val hS rfl rfl (by decide) (r_pick_false rfl (hS.ev_ rfl) rfl (hS.ev_ rfl)) fun a hS => ?_
      refine st_done ?_
      replace hS : Slots 9 [] a [(8, Value.bool (false)), (2, Value.bool (false))] := (hS.part (.cons rfl (.cons rfl (.nil _))))
      refine x_then ?_
      obtain rfl := Option.some.inj h3
      exact ⟨(hS.part (.cons rfl (.cons rfl (.nil _)))), hM⟩
  · rintro a w ⟨hS, hM⟩
    refine st_val hS rfl rfl (by decide) (r_assign rfl (hS.ev_ rfl)) fun a hS => ?_
    refine st_done ?_
    replace hS : Slots 9 [] a [(2, Value.bool (x2))] := (hS.part (.cons rfl (.nil _)))
    refine x_then ?_
    refine wp_ret ?_
    have hr' := Option.some.inj h
    subst hr'
    refine ret1 (.inr rfl) hS rfl rfl ?_
    exact ⟨K, (Hp.le.refl _), hM, rfl⟩

theorem W_goes_c {w0 w : World} {K : Hp} {L : List SP} {p1 : UInt8} {r : Bool} (hG : Glob w0) (h : W_goes p1 = some r) (hM : Sat w0 w K (L)) :
    Calls Tryd.prog 25 #[Value.int .u8 (b8 (p1))] w (fun e w' => ∃ (K' : Hp), Hp.le K K' ∧ Sat w0 w' K' (L) ∧ e = .returned (Value.bool (r))) := by
  refine enter_ (n := 9) (args := [Value.int .u8 (b8 (p1))]) Tryd.func25 rfl rfl (Nat.le_of_ble_eq_true rfl) fun a hS => ?_
  replace hS : Slots 9 [] a [(0, Value.int .u8 (b8 (p1)))] := hS
  unfold W_goes at h
  refine wp_seq ?_
  refine wp_region_lit ?_
  refine st_val hS rfl rfl (by decide) (r_assign rfl (hS.ev_ rfl)) fun a hS => ?_
  refine st_done ?_
  replace hS : Slots 9 [] a [(2, Value.bool (false)), (0, Value.int .u8 (b8 (p1)))] := (hS.part (.cons rfl (.cons rfl (.nil _))))
  refine x_then ?_
  refine wp_seq ?_
  refine wp_region_lit ?_
  refine st_val hS rfl rfl (by decide) (r_move rfl (hS.ev_ rfl)) fun a hS => ?_
  obtain ⟨y2, h3, h⟩ := bindO h
  have hc5 := W_begins_c hG h3 hM
  refine wl_cons rfl (e_call rfl Tryd.func23 rfl rfl (args1 (hS.ev_ rfl)) hc5 ?_)
  rintro _ w ⟨K4, hlK4, hM, rfl⟩
  refine ⟨_, rfl, ?_⟩
  refine pl hS rfl (by decide) fun a hS => ?_
  refine st_val hS rfl rfl (by decide) (r_move rfl (hS.ev_ rfl)) fun a hS => ?_
  obtain ⟨x7, h8, h⟩ := bindO h
  refine wl_cut 3 (fun a w => ∃ (K6 : Hp), Hp.le K4 K6 ∧ Slots 9 [] a [(2, Value.bool (false)), (8, Value.bool (x7))] ∧ Sat w0 w K6 (L)) ?_ ?_
  ·
    skip
    rcases ifB h8 with ⟨hc9, h8⟩ | ⟨hc9, h8⟩
    ·
      replace hS := hS.known (k := 5) rfl hc9
      refine st_off hS rfl rfl rfl rfl rfl rfl (by decide) fun a hS => ?_
      refine st_off hS rfl rfl rfl rfl rfl rfl (by decide) fun a hS => ?_
      refine st_val hS rfl rfl (by decide) (r_pick_true rfl (hS.ev_ rfl) rfl (hS.ev_ rfl)) fun a hS => ?_
      refine st_done ?_
      replace hS : Slots 9 [] a [(8, Value.bool (true)), (2, Value.bool (false))] := (hS.part (.cons rfl (.cons rfl (.nil _))))
      refine x_then ?_
      obtain rfl := Option.some.inj h8
      exact ⟨K4, (Hp.le.refl _), (hS.part (.cons rfl (.cons rfl (.nil _)))), hM⟩
    ·
      replace hS := hS.known (k := 5) rfl hc9
      refine st_want hS rfl rfl rfl rfl rfl (by decide) (r_move rfl (hS.ev_ rfl)) fun a hS => ?_
      obtain ⟨y10, h11, h8⟩ := bindO h8
      have hc13 := W_figure_c hG h11 hM
      refine g_want hS rfl rfl rfl rfl (e_call rfl Tryd.func32 rfl rfl (args1 (hS.ev_ rfl)) hc13 ?_)
      rintro _ w ⟨K12, hlK12, hM, rfl⟩
      refine ⟨_, rfl, ?_⟩
      refine pl hS rfl (by decide) fun a hS => ?_
      refine st_val hS rfl rfl (by decide) (r_pick_false rfl (hS.ev_ rfl) rfl (hS.ev_ rfl)) fun a hS => ?_
      refine st_done ?_
      replace hS : Slots 9 [] a [(8, Value.bool (y10)), (2, Value.bool (false))] := (hS.part (.cons rfl (.cons rfl (.nil _))))
      refine x_then ?_
      obtain rfl := Option.some.inj h8
      exact ⟨K12, hlK12, (hS.part (.cons rfl (.cons rfl (.nil _)))), hM⟩
  · rintro a w ⟨K6, hlK6, hS, hM⟩
    refine st_val hS rfl rfl (by decide) (r_assign rfl (hS.ev_ rfl)) fun a hS => ?_
    refine st_done ?_
    replace hS : Slots 9 [] a [(2, Value.bool (x7))] := (hS.part (.cons rfl (.nil _)))
    refine x_then ?_
    refine wp_ret ?_
    have hr' := Option.some.inj h
    subst hr'
    refine ret1 (.inr rfl) hS rfl rfl ?_
    exact ⟨K6, (hlK4.trans hlK6), hM, rfl⟩

theorem W_reader_name_c {w0 w : World} {K : Hp} {L : List SP} {p1 : W_reader} {g2 : Nat} {r : W_Token × (Option Nat) × W_reader} (hG : Glob w0) (h : W_reader_name p1 = some r) (hM : Sat w0 w K (SP.blk g2 62 [strV (p1.f_s), Value.int .i64 (p1.f_at)] :: L)) :
    Calls Tryd.prog 40 #[Value.pointer (some ⟨g2, 0, none⟩)] w (fun e w' => ∃ (K' : Hp) (v'1 : Value), Hp.le K K' ∧ Sat w0 w' K' (SP.blk g2 62 [strV (r.2.2.f_s), Value.int .i64 (r.2.2.f_at)] :: L) ∧ e = .returned (Value.tuple #[Value.agg #[Value.int .i64 (r.1.f_Kind), strV (r.1.f_Text), Value.int .i64 (r.1.f_Number), v'1, Value.int .i64 (r.1.f_At)], eV w0 r.2.1]) ∧ kW_Piece.sl K' v'1 r.1.f_Pieces) := by
  refine enter_ (n := 14) (args := [Value.pointer (some ⟨g2, 0, none⟩)]) Tryd.func40 rfl rfl (Nat.le_of_ble_eq_true rfl) fun a hS => ?_
  replace hS : Slots 14 [] a [(0, Value.pointer (some ⟨g2, 0, none⟩))] := hS
  unfold W_reader_name at h
  refine wp_seq ?_
  refine wp_region_lit ?_
  refine wl_cons rfl (e_alloc (cs := [Value.int .i64 (0), strV (([] : List UInt8)), Value.int .i64 (0), Value.slice none 0 0, Value.int .i64 (0)]) hM rfl ti_24 rfl fun g3 w hM => ?_)
  refine pl hS rfl (by decide) fun a hS => ?_
  refine st_val hS rfl rfl (by decide) (r_assign rfl (hS.ev_ rfl)) fun a hS => ?_
  refine st_done ?_
  replace hS : Slots 14 [] a [(3, eV w0 ((none : Option Nat))), (2, Value.pointer (some ⟨g3, 0, none⟩)), (0, Value.pointer (some ⟨g2, 0, none⟩))] := (hS.part (.cons rfl (.cons rfl (.cons rfl (.nil _)))))
  refine x_then ?_
  refine wp_seq ?_
  refine wp_region_lit ?_
  refine st_val hS rfl rfl (by decide) (r_move rfl (hS.ev_ rfl)) fun a hS => ?_
  obtain ⟨y5, h6, h⟩ := bindO h
  replace hM := hM.pull 1 rfl rfl
  have hc8 := W_reader_while_c hG h6 ⟨25, _, _, #[], #[], rfl, Tryd.func25, rfl, rfl, fun h hM => by simpa only [Array.empty_append, Array.append_empty] using W_goes_c hG h hM⟩ hM
  refine wl_cons rfl (e_call rfl Tryd.func36 rfl rfl (args2 (hS.ev_ rfl) (hS.ev_ rfl)) hc8 ?_)
  rintro _ w ⟨K7, hlK7, hM, rfl⟩
  refine ⟨_, rfl, ?_⟩
  refine pl hS rfl (by decide) fun a hS => ?_
  refine st_val hS rfl rfl (by decide) (r_assign rfl (hS.ev_ rfl)) fun a hS => ?_
  refine st_done ?_
  replace hS : Slots 14 [] a [(4, strV (y5.1)), (3, eV w0 ((none : Option Nat))), (2, Value.pointer (some ⟨g3, 0, none⟩))] := (hS.part (.cons rfl (.cons rfl (.cons rfl (.nil _)))))
  refine x_then ?_
  refine wp_seq ?_
  refine wp_seq ?_
  refine wp_region_lit ?_
  refine st_val hS rfl rfl (by decide) (r_move rfl (hS.ev_ rfl)) fun a hS => ?_
  refine st_val hS rfl rfl (by decide) (r_len_str rfl un_9 (hS.ev_ rfl)) fun a hS => ?_
  refine st_val hS rfl rfl (by decide) (r_cmp rfl (hS.ev_ rfl) (hS.ev_ rfl) rfl) fun a hS => ?_
  refine st_done ?_
  replace hS : Slots 14 [] a [(9, Value.bool (decide (((y5.1.length : Int)) > 24))), (4, strV (y5.1)), (3, eV w0 ((none : Option Nat))), (2, Value.pointer (some ⟨g3, 0, none⟩))] := (hS.part (.cons rfl (.cons rfl (.cons rfl (.cons rfl (.nil _))))))
  refine x_then ?_
  rcases ifB h with ⟨hc9, h⟩ | ⟨hc9, h⟩
  · refine c_cond_true (hS.ev_ rfl) hc9 ?_
    refine wp_seq ?_
    refine tk_start #[false, false, false, false] mixed_ rfl rfl ?_
    replace hM := hM.drew
    generalize w.drew = w at hM ⊢
    refine dk_any (i := 0) #[true, false, false, false] hS rfl (by kernel_rfl) rfl rfl (by decide) (fun w => r_build (cs := [Value.int .i64 (0), strV (([] : List UInt8)), Value.int .i64 (0), Value.slice none 0 0, Value.int .i64 (0)]) rfl (parts_ev hS rfl) (by kernel_rfl)) fun a hS => ?_
    refine dk_val (i := 1) (S := Rd w0 K7 []) #[true, true, false, false] hS rfl (by kernel_rfl) rfl rfl (by decide) (Rd.up (Hp.le.refl _) hM.nil_) (fun w hR => r_ldG rfl ag_41 (hS.ev_ rfl) (hG 0 (by decide)) hR) fun a hS => ?_
    replace hM := hM.pull 1 rfl rfl
    refine dk_one (i := 2) #[true, true, true, false] rfl (by kernel_rfl) rfl (e_storeN (vs := [Value.int .i64 (0), strV (([] : List UInt8)), Value.int .i64 (0), Value.slice none 0 0, Value.int .i64 (0)]) hM rfl ti_24 (hS.ev_ rfl) (hS.ev_ rfl) (ones_cons rfl (ones_cons rfl (ones_cons rfl (ones_cons rfl (ones_cons rfl ones_nil))))) (Nat.le_of_ble_eq_true rfl) fun w hM => ?_)
    have hM : Sat w0 w K7 (SP.blk g3 24 [Value.int .i64 (0), strV (([] : List UInt8)), Value.int .i64 (0), Value.slice none 0 0, Value.int .i64 (0)] :: SP.blk g2 62 [strV (y5.2.f_s), Value.int .i64 (y5.2.f_at)] :: L) := hM
    refine pT0 hS rfl (Dem.keep (fun _ => Rd.up (Hp.le.refl _) hM.nil_) Dem.nil) fun a hS => ?_
    refine dk_any (i := 3) #[true, true, true, true] hS rfl (by kernel_rfl) rfl rfl (by decide) (fun w => r_assign rfl (hS.ev_ rfl)) fun a hS => ?_
    refine tk_done (by kernel_rfl) ?_
    replace hS : Slots 14 [] a [(3, eV w0 ((some 0 : Option Nat))), (4, strV (y5.1)), (2, Value.pointer (some ⟨g3, 0, none⟩))] := (hS.part (.cons rfl (.cons rfl (.cons rfl (.nil _)))))
    refine x_then ?_
    refine wp_ret ?_
    refine x_then_ret ?_
    have hr' := Option.some.inj h
    subst hr'
    refine retR2 (.inr rfl) hS rfl ⟨_, rfl, lv_N (cs' := [Value.int .i64 (0), strV (([] : List UInt8)), Value.int .i64 (0), Value.slice none 0 0, Value.int .i64 (0)]) hM ag_24 ti_24 rfl⟩ (show Sl.look _ _ = some (eV w0 ((some 0 : Option Nat))) from rfl) ?_
    exact ⟨K7, (Value.slice none 0 0), hlK7, (hM).tail, rfl, (Kd.sl_nil _ _)⟩
  · refine c_cond_false (hS.ev_ rfl) hc9 ?_
    refine wp_skip ?_
    refine x_then ?_
    refine wp_seq ?_
    refine wp_region_lit ?_
    refine st_val hS rfl rfl (by decide) (r_move rfl (hS.ev_ rfl)) fun a hS => ?_
    refine st_val hS rfl rfl (by decide) (r_build (cs := [Value.int .i64 (1), strV (y5.1), Value.int .i64 (0), Value.slice none 0 0, Value.int .i64 (0)]) rfl (parts_ev hS rfl) (by kernel_rfl)) fun a hS => ?_
    replace hM := hM.pull 1 rfl rfl
    refine wl_cons rfl (e_storeN (vs := [Value.int .i64 (1), strV (y5.1), Value.int .i64 (0), Value.slice none 0 0, Value.int .i64 (0)]) hM rfl ti_24 (hS.ev_ rfl) (hS.ev_ rfl) (ones_cons rfl (ones_cons rfl (ones_cons rfl (ones_cons rfl (ones_cons rfl ones_nil))))) (Nat.le_of_ble_eq_true rfl) fun w hM => ?_)
    have hM : Sat w0 w K7 (SP.blk g3 24 [Value.int .i64 (1), strV (y5.1), Value.int .i64 (0), Value.slice none 0 0, Value.int .i64 (0)] :: SP.blk g2 62 [strV (y5.2.f_s), Value.int .i64 (y5.2.f_at)] :: L) := hM
    refine pl0 hS rfl fun a hS => ?_
    refine st_val hS rfl rfl (by decide) (r_assign rfl (hS.ev_ rfl)) fun a hS => ?_
    refine st_done ?_
    replace hS : Slots 14 [] a [(3, eV w0 ((none : Option Nat))), (2, Value.pointer (some ⟨g3, 0, none⟩))] := (hS.part (.cons rfl (.cons rfl (.nil _))))
    refine x_then ?_
    refine wp_ret ?_
    have hr' := Option.some.inj h
    subst hr'
    refine retR2 (.inr rfl) hS rfl ⟨_, rfl, lv_N (cs' := [Value.int .i64 (1), strV (y5.1), Value.int .i64 (0), Value.slice none 0 0, Value.int .i64 (0)]) hM ag_24 ti_24 rfl⟩ (show Sl.look _ _ = some (eV w0 ((none : Option Nat))) from rfl) ?_
    exact ⟨K7, (Value.slice none 0 0), hlK7, (hM).tail, rfl, (Kd.sl_nil _ _)⟩

theorem W_reader_number_c {w0 w : World} {K : Hp} {L : List SP} {p1 : W_reader} {g2 : Nat} {r : W_Token × (Option Nat) × W_reader} (hG : Glob w0) (h : W_reader_number p1 = some r) (hM : Sat w0 w K (SP.blk g2 62 [strV (p1.f_s), Value.int .i64 (p1.f_at)] :: L)) :
    Calls Tryd.prog 41 #[Value.pointer (some ⟨g2, 0, none⟩)] w (fun e w' => ∃ (K' : Hp) (v'1 : Value), Hp.le K K' ∧ Sat w0 w' K' (SP.blk g2 62 [strV (r.2.2.f_s), Value.int .i64 (r.2.2.f_at)] :: L) ∧ e = .returned (Value.tuple #[Value.agg #[Value.int .i64 (r.1.f_Kind), strV (r.1.f_Text), Value.int .i64 (r.1.f_Number), v'1, Value.int .i64 (r.1.f_At)], eV w0 r.2.1]) ∧ kW_Piece.sl K' v'1 r.1.f_Pieces) := by
  refine enter_ (n := 74) (args := [Value.pointer (some ⟨g2, 0, none⟩)]) Tryd.func41 rfl rfl (Nat.le_of_ble_eq_true rfl) fun a hS => ?_
  replace hS : Slots 74 [] a [(0, Value.pointer (some ⟨g2, 0, none⟩))] := hS
  unfold W_reader_number at h
  refine wp_seq ?_
  refine wp_region_lit ?_
  refine wl_cons rfl (e_alloc (cs := [Value.int .i64 (0), strV (([] : List UInt8)), Value.int .i64 (0), Value.slice none 0 0, Value.int .i64 (0)]) hM rfl ti_24 rfl fun g3 w hM => ?_)
  refine pl hS rfl (by decide) fun a hS => ?_
  refine st_val hS rfl rfl (by decide) (r_assign rfl (hS.ev_ rfl)) fun a hS => ?_
  refine st_done ?_
  replace hS : Slots 74 [] a [(3, eV w0 ((none : Option Nat))), (2, Value.pointer (some ⟨g3, 0, none⟩)), (0, Value.pointer (some ⟨g2, 0, none⟩))] := (hS.part (.cons rfl (.cons rfl (.cons rfl (.nil _)))))
  refine x_then ?_
  refine wp_seq ?_
  refine wp_region_lit ?_
  refine st_val hS rfl rfl (by decide) (r_move rfl (hS.ev_ rfl)) fun a hS => ?_
  obtain ⟨y5, h6, h⟩ := bindO h
  replace hM := hM.pull 1 rfl rfl
  have hc8 := W_reader_peek_c hG h6 hM
  refine wl_cons rfl (e_call rfl Tryd.func38 rfl rfl (args2 (hS.ev_ rfl) (hS.ev_ rfl)) hc8 ?_)
  rintro _ w ⟨K7, hlK7, hM, rfl⟩
  refine ⟨_, rfl, ?_⟩
  refine pl hS rfl (by decide) fun a hS => ?_
  refine st_val hS rfl rfl (by decide) (r_cmp8 rfl (hS.ev_ rfl) (hS.ev_ (v := Value.int .u8 (b8 (45))) rfl) rfl) fun a hS => ?_
  refine st_val hS rfl rfl (by decide) (r_assign rfl (hS.ev_ rfl)) fun a hS => ?_
  refine st_done ?_
  replace hS : Slots 74 [] a [(4, Value.bool (y5.1 == 45)), (3, eV w0 ((none : Option Nat))), (2, Value.pointer (some ⟨g3, 0, none⟩)), (0, Value.pointer (some ⟨g2, 0, none⟩))] := (hS.part (.cons rfl (.cons rfl (.cons rfl (.cons rfl (.nil _))))))
  refine x_then ?_
  obtain ⟨x9, h10, h⟩ := bindO h
  refine c_cut (fun a w => Slots 74 [] a [(0, Value.pointer (some ⟨g2, 0, none⟩)), (2, Value.pointer (some ⟨g3, 0, none⟩)), (3, eV w0 ((none : Option Nat))), (4, Value.bool (y5.1 == 45))] ∧ Sat w0 w K7 (SP.blk g2 62 [strV (y5.2.f_s), Value.int .i64 (x9)] :: SP.blk g3 24 [Value.int .i64 (0), strV (([] : List UInt8)), Value.int .i64 (0), Value.slice none 0 0, Value.int .i64 (0)] :: L)) ?_ ?_
  ·
    refine wp_seq ?_
    refine wp_region_lit ?_
    refine st_val hS rfl rfl (by decide) (r_move rfl (hS.ev_ rfl)) fun a hS => ?_
    refine st_done ?_
    replace hS : Slots 74 [] a [(12, Value.bool (y5.1 == 45)), (4, Value.bool (y5.1 == 45)), (3, eV w0 ((none : Option Nat))), (2, Value.pointer (some ⟨g3, 0, none⟩)), (0, Value.pointer (some ⟨g2, 0, none⟩))] := (hS.part (.cons rfl (.cons rfl (.cons rfl (.cons rfl (.cons rfl (.nil _)))))))
    refine x_then ?_
    rcases ifB h10 with ⟨hc11, h10⟩ | ⟨hc11, h10⟩
    · refine c_cond_true (hS.ev_ rfl) hc11 ?_
      refine wp_region_lit ?_
      refine st_val hS rfl rfl (by decide) (r_move rfl (hS.ev_ rfl)) fun a hS => ?_
      refine st_val hS rfl rfl (by decide) (r_nilCheck rfl (hS.ev_ rfl)) fun a hS => ?_
      refine st_val hS rfl rfl (by decide) (r_fld_b rfl fo_62_1 (hS.ev_ rfl)) fun a hS => ?_
      refine st_val hS rfl rfl (by decide) (r_ld1_b rfl ag_3 (hS.ev_ rfl) rfl (Rd.of hM)) fun a hS => ?_
      refine st_val hS rfl rfl (by decide) (r_add rfl (hS.ev_ rfl) (hS.ev_ rfl)) fun a hS => ?_
      refine st_val hS rfl rfl (by decide) (r_nilCheck rfl (hS.ev_ rfl)) fun a hS => ?_
      refine st_val hS rfl rfl (by decide) (r_fld_b rfl fo_62_1 (hS.ev_ rfl)) fun a hS => ?_
      refine wl_cons rfl (e_store1 hM rfl ti_3 (hS.ev_ rfl) (hS.ev_ rfl) rfl (Nat.lt_of_lt_of_le (Nat.le_of_ble_eq_true rfl) (Nat.le_refl _)) fun w hM => ?_)
      have hM : Sat w0 w K7 (SP.blk g2 62 [strV (y5.2.f_s), Value.int .i64 (w64 (y5.2.f_at + 1))] :: SP.blk g3 24 [Value.int .i64 (0), strV (([] : List UInt8)), Value.int .i64 (0), Value.slice none 0 0, Value.int .i64 (0)] :: L) := hM
      refine pl0 hS rfl fun a hS => ?_
      refine st_done ?_
      replace hS : Slots 74 [] a [(4, Value.bool (y5.1 == 45)), (3, eV w0 ((none : Option Nat))), (2, Value.pointer (some ⟨g3, 0, none⟩)), (0, Value.pointer (some ⟨g2, 0, none⟩))] := (hS.part (.cons rfl (.cons rfl (.cons rfl (.cons rfl (.nil _))))))
      refine x_then ?_
      obtain rfl := Option.some.inj h10
      exact ⟨(hS.part (.cons rfl (.cons rfl (.cons rfl (.cons rfl (.nil _)))))), ((hM.pull 1 rfl rfl).pull 1 rfl rfl)⟩
    · refine c_cond_false (hS.ev_ rfl) hc11 ?_
      refine wp_skip ?_
      refine x_then ?_
      obtain rfl := Option.some.inj h10
      exact ⟨(hS.part (.cons rfl (.cons rfl (.cons rfl (.cons rfl (.nil _)))))), ((hM.pull 1 rfl rfl).pull 1 rfl rfl)⟩
  · rintro a w ⟨hS, hM⟩
    refine wp_seq ?_
    refine wp_region_lit ?_
    refine st_val hS rfl rfl (by decide) (r_move rfl (hS.ev_ rfl)) fun a hS => ?_
    obtain ⟨y12, h13, h⟩ := bindO h
    have hc15 := W_reader_while_c hG h13 ⟨32, _, _, #[], #[], rfl, Tryd.func32, rfl, rfl, fun h hM => by simpa only [Array.empty_append, Array.append_empty] using W_figure_c hG h hM⟩ hM
    refine wl_cons rfl (e_call rfl Tryd.func36 rfl rfl (args2 (hS.ev_ rfl) (hS.ev_ rfl)) hc15 ?_)
    rintro _ w ⟨K14, hlK14, hM, rfl⟩
    refine ⟨_, rfl, ?_⟩
    refine pl hS rfl (by decide) fun a hS => ?_
    refine st_val hS rfl rfl (by decide) (r_assign rfl (hS.ev_ rfl)) fun a hS => ?_
    refine st_done ?_
    replace hS : Slots 74 [] a [(5, strV (y12.1)), (0, Value.pointer (some ⟨g2, 0, none⟩)), (2, Value.pointer (some ⟨g3, 0, none⟩)), (3, eV w0 ((none : Option Nat))), (4, Value.bool (y5.1 == 45))] := (hS.part (.cons rfl (.cons rfl (.cons rfl (.cons rfl (.cons rfl (.nil _)))))))
    refine x_then ?_
    refine wp_seq ?_
    refine wp_region_lit ?_
    refine st_val hS rfl rfl (by decide) (r_assign rfl (hS.ev_ rfl)) fun a hS => ?_
    refine st_done ?_
    replace hS : Slots 74 [] a [(6, Value.int .i64 (0)), (5, strV (y12.1)), (0, Value.pointer (some ⟨g2, 0, none⟩)), (2, Value.pointer (some ⟨g3, 0, none⟩)), (3, eV w0 ((none : Option Nat))), (4, Value.bool (y5.1 == 45))] := (hS.part (.cons rfl (.cons rfl (.cons rfl (.cons rfl (.cons rfl (.cons rfl (.nil _))))))))
    refine x_then ?_
    refine wp_seq ?_
    refine wp_block ?_
    refine wp_seq ?_
    refine wp_region_lit ?_
    refine st_val hS rfl rfl (by decide) (r_move rfl (hS.ev_ rfl)) fun a hS => ?_
    refine st_val hS rfl rfl (by decide) (r_len_str rfl un_9 (hS.ev_ rfl)) fun a hS => ?_
    refine st_val hS rfl rfl (by decide) (r_cmp rfl (hS.ev_ rfl) (hS.ev_ rfl) rfl) fun a hS => ?_
    refine st_val hS rfl rfl (by decide) (r_assign rfl (hS.ev_ rfl)) fun a hS => ?_
    refine st_done ?_
    replace hS : Slots 74 [] a [(22, Value.bool (decide (((y12.1.length : Int)) > 9))), (6, Value.int .i64 (0)), (5, strV (y12.1)), (0, Value.pointer (some ⟨g2, 0, none⟩)), (2, Value.pointer (some ⟨g3, 0, none⟩)), (3, eV w0 ((none : Option Nat))), (4, Value.bool (y5.1 == 45))] := (hS.part (.cons rfl (.cons rfl (.cons rfl (.cons rfl (.cons rfl (.cons rfl (.cons rfl (.nil _)))))))))
    refine x_then ?_
    rcases ifB h with ⟨hc16, h⟩ | ⟨hc16, h⟩
    · refine c_cond_true (hS.ev_ rfl) hc16 ?_
      refine wp_seq ?_
      refine tk_start #[false, false, false, false] mixed_ rfl rfl ?_
      replace hM := hM.drew
      generalize w.drew = w at hM ⊢
      refine dk_any (i := 0) #[true, false, false, false] hS rfl (by kernel_rfl) rfl rfl (by decide) (fun w => r_build (cs := [Value.int .i64 (0), strV (([] : List UInt8)), Value.int .i64 (0), Value.slice none 0 0, Value.int .i64 (0)]) rfl (parts_ev hS rfl) (by kernel_rfl)) fun a hS => ?_
      refine dk_val (i := 1) (S := Rd w0 K14 []) #[true, true, false, false] hS rfl (by kernel_rfl) rfl rfl (by decide) (Rd.up (Hp.le.refl _) hM.nil_) (fun w hR => r_ldG rfl ag_41 (hS.ev_ rfl) (hG 0 (by decide)) hR) fun a hS => ?_
      replace hM := hM.pull 1 rfl rfl
      refine dk_one (i := 2) #[true, true, true, false] rfl (by kernel_rfl) rfl (e_storeN (vs := [Value.int .i64 (0), strV (([] : List UInt8)), Value.int .i64 (0), Value.slice none 0 0, Value.int .i64 (0)]) hM rfl ti_24 (hS.ev_ rfl) (hS.ev_ rfl) (ones_cons rfl (ones_cons rfl (ones_cons rfl (ones_cons rfl (ones_cons rfl ones_nil))))) (Nat.le_of_ble_eq_true rfl) fun w hM => ?_)
      have hM : Sat w0 w K14 (SP.blk g3 24 [Value.int .i64 (0), strV (([] : List UInt8)), Value.int .i64 (0), Value.slice none 0 0, Value.int .i64 (0)] :: SP.blk g2 62 [strV (y12.2.f_s), Value.int .i64 (y12.2.f_at)] :: L) := hM
      refine pT0 hS rfl (Dem.keep (fun _ => Rd.up (Hp.le.refl _) hM.nil_) Dem.nil) fun a hS => ?_
      refine dk_any (i := 3) #[true, true, true, true] hS rfl (by kernel_rfl) rfl rfl (by decide) (fun w => r_assign rfl (hS.ev_ rfl)) fun a hS => ?_
      refine tk_done (by kernel_rfl) ?_
      replace hS : Slots 74 [] a [(3, eV w0 ((some 0 : Option Nat))), (6, Value.int .i64 (0)), (5, strV (y12.1)), (2, Value.pointer (some ⟨g3, 0, none⟩)), (4, Value.bool (y5.1 == 45))] := (hS.part (.cons rfl (.cons rfl (.cons rfl (.cons rfl (.cons rfl (.nil _)))))))
      refine x_then ?_
      refine wp_ret ?_
      refine x_block_ret ?_
      refine x_then_ret ?_
      have hr' := Option.some.inj h
      subst hr'
      refine retR2 (.inr rfl) hS rfl ⟨_, rfl, lv_N (cs' := [Value.int .i64 (0), strV (([] : List UInt8)), Value.int .i64 (0), Value.slice none 0 0, Value.int .i64 (0)]) hM ag_24 ti_24 rfl⟩ (show Sl.look _ _ = some (eV w0 ((some 0 : Option Nat))) from rfl) ?_
      exact ⟨K14, (Value.slice none 0 0), (hlK7.trans hlK14), (hM).tail, rfl, (Kd.sl_nil _ _)⟩
    · refine c_cond_false (hS.ev_ rfl) hc16 ?_
      refine wp_seq ?_
      refine wp_region_lit ?_
      refine st_val hS rfl rfl (by decide) (r_move rfl (hS.ev_ rfl)) fun a hS => ?_
      refine st_val hS rfl rfl (by decide) (r_seq rfl (hS.ev_ rfl) (hS.ev_ (v := strV (([] : List UInt8))) rfl)) fun a hS => ?_
      refine st_val hS rfl rfl (by decide) (r_move rfl (hS.ev_ rfl)) fun a hS => ?_
      obtain ⟨x17, h18, h⟩ := bindO h
      refine wl_cut 9 (fun a w => Slots 74 [] a [(0, Value.pointer (some ⟨g2, 0, none⟩)), (2, Value.pointer (some ⟨g3, 0, none⟩)), (3, eV w0 ((none : Option Nat))), (4, Value.bool (y5.1 == 45)), (5, strV (y12.1)), (6, Value.int .i64 (0)), (40, Value.bool (x17))] ∧ Sat w0 w K14 (SP.blk g2 62 [strV (y12.2.f_s), Value.int .i64 (y12.2.f_at)] :: SP.blk g3 24 [Value.int .i64 (0), strV (([] : List UInt8)), Value.int .i64 (0), Value.slice none 0 0, Value.int .i64 (0)] :: L)) ?_ ?_
      ·
        skip
        rcases ifB h18 with ⟨hc19, h18⟩ | ⟨hc19, h18⟩
        ·
          replace hS := hS.known (k := 31) rfl hc19
          refine st_off hS rfl rfl rfl rfl rfl rfl (by decide) fun a hS => ?_
          refine st_off hS rfl rfl rfl rfl rfl rfl (by decide) fun a hS => ?_
          refine st_off hS rfl rfl rfl rfl rfl rfl (by decide) fun a hS => ?_
          refine st_off hS rfl rfl rfl rfl rfl rfl (by decide) fun a hS => ?_
          refine st_off_undef hS rfl rfl rfl rfl rfl (by decide) fun a hS => ?_
          refine st_off_undef hS rfl rfl rfl rfl rfl (by decide) fun a hS => ?_
          refine st_off_undef hS rfl rfl rfl rfl rfl (by decide) fun a hS => ?_
          refine st_off hS rfl rfl rfl rfl rfl rfl (by decide) fun a hS => ?_
          refine st_val hS rfl rfl (by decide) (r_pick_true rfl (hS.ev_ rfl) rfl (hS.ev_ rfl)) fun a hS => ?_
          refine st_done ?_
          replace hS : Slots 74 [] a [(40, Value.bool (true)), (6, Value.int .i64 (0)), (5, strV (y12.1)), (0, Value.pointer (some ⟨g2, 0, none⟩)), (2, Value.pointer (some ⟨g3, 0, none⟩)), (3, eV w0 ((none : Option Nat))), (4, Value.bool (y5.1 == 45))] := (hS.part (.cons rfl (.cons rfl (.cons rfl (.cons rfl (.cons rfl (.cons rfl (.cons rfl (.nil _)))))))))
          refine x_then ?_
          obtain rfl := Option.some.inj h18
          exact ⟨(hS.part (.cons rfl (.cons rfl (.cons rfl (.cons rfl (.cons rfl (.cons rfl (.cons rfl (.nil _))))))))), ((hM.pull 1 rfl rfl).pull 1 rfl rfl)⟩
        ·
          replace hS := hS.known (k := 31) rfl hc19
          refine st_want hS rfl rfl rfl rfl rfl (by decide) (r_move rfl (hS.ev_ rfl)) fun a hS => ?_
          refine st_want hS rfl rfl rfl rfl rfl (by decide) (r_len_str rfl un_9 (hS.ev_ rfl)) fun a hS => ?_
          refine st_want hS rfl rfl rfl rfl rfl (by decide) (r_cmp rfl (hS.ev_ rfl) (hS.ev_ rfl) rfl) fun a hS => ?_
          refine st_want hS rfl rfl rfl rfl rfl (by decide) (r_move rfl (hS.ev_ rfl)) fun a hS => ?_
          obtain ⟨x20, h21, h18⟩ := bindO h18
          refine wl_cut 4 (fun a w => Slots 74 [] a [(0, Value.pointer (some ⟨g2, 0, none⟩)), (2, Value.pointer (some ⟨g3, 0, none⟩)), (3, eV w0 ((none : Option Nat))), (4, Value.bool (y5.1 == 45)), (5, strV (y12.1)), (6, Value.int .i64 (0)), (31, Value.bool (false)), (39, Value.bool (x20))] ∧ Sat w0 w K14 (SP.blk g2 62 [strV (y12.2.f_s), Value.int .i64 (y12.2.f_at)] :: SP.blk g3 24 [Value.int .i64 (0), strV (([] : List UInt8)), Value.int .i64 (0), Value.slice none 0 0, Value.int .i64 (0)] :: L)) ?_ ?_
          ·
            skip
            rcases ifB h21 with ⟨hc22, h21⟩ | ⟨hc22, h21⟩
            ·
              replace hS := hS.known (k := 35) rfl hc22
              refine st_want hS rfl rfl rfl rfl rfl (by decide) (r_move rfl (hS.ev_ rfl)) fun a hS => ?_
              obtain ⟨c23, h24, h21⟩ := bindO h21
              refine st_want hS rfl rfl rfl rfl rfl (by decide) (r_index_s rfl un_9 (hS.ev_ rfl) (hS.ev_ rfl) h24) fun a hS => ?_
              refine st_want hS rfl rfl rfl rfl rfl (by decide) (r_cmp8 rfl (hS.ev_ rfl) (hS.ev_ (v := Value.int .u8 (b8 (48))) rfl) rfl) fun a hS => ?_
              refine st_want hS rfl rfl rfl rfl rfl (by decide) (r_pick_true rfl (hS.ev_ rfl) rfl (hS.ev_ rfl)) fun a hS => ?_
              refine st_done ?_
              replace hS : Slots 74 [] a [(39, Value.bool (c23 == 48)), (31, Value.bool (false)), (6, Value.int .i64 (0)), (5, strV (y12.1)), (0, Value.pointer (some ⟨g2, 0, none⟩)), (2, Value.pointer (some ⟨g3, 0, none⟩)), (3, eV w0 ((none : Option Nat))), (4, Value.bool (y5.1 == 45))] := (hS.part (.cons rfl (.cons rfl (.cons rfl (.cons rfl (.cons rfl (.cons rfl (.cons rfl (.cons rfl (.nil _))))))))))
              refine x_then ?_
              obtain rfl := Option.some.inj h21
              exact ⟨(hS.part (.cons rfl (.cons rfl (.cons rfl (.cons rfl (.cons rfl (.cons rfl (.cons rfl (.cons rfl (.nil _)))))))))), ((hM.pull 1 rfl rfl).pull 1 rfl rfl)⟩
            ·
              replace hS := hS.known (k := 35) rfl hc22
              refine st_off hS rfl rfl rfl rfl rfl rfl (by decide) fun a hS => ?_
              refine st_off hS rfl rfl rfl rfl rfl rfl (by decide) fun a hS => ?_
              refine st_off hS rfl rfl rfl rfl rfl rfl (by decide) fun a hS => ?_
              refine st_want hS rfl rfl rfl rfl rfl (by decide) (r_pick_false rfl (hS.ev_ rfl) rfl (hS.ev_ rfl)) fun a hS => ?_
              refine st_done ?_
              replace hS : Slots 74 [] a [(39, Value.bool (false)), (31, Value.bool (false)), (6, Value.int .i64 (0)), (5, strV (y12.1)), (0, Value.pointer (some ⟨g2, 0, none⟩)), (2, Value.pointer (some ⟨g3, 0, none⟩)), (3, eV w0 ((none : Option Nat))), (4, Value.bool (y5.1 == 45))] := (hS.part (.cons rfl (.cons rfl (.cons rfl (.cons rfl (.cons rfl (.cons rfl (.cons rfl (.cons rfl (.nil _))))))))))
              refine x_then ?_
              obtain rfl := Option.some.inj h21
              exact ⟨(hS.part (.cons rfl (.cons rfl (.cons rfl (.cons rfl (.cons rfl (.cons rfl (.cons rfl (.cons rfl (.nil _)))))))))), ((hM.pull 1 rfl rfl).pull 1 rfl rfl)⟩
          · rintro a w ⟨hS, hM⟩
            refine st_val hS rfl rfl (by decide) (r_pick_false rfl (hS.ev_ rfl) rfl (hS.ev_ rfl)) fun a hS => ?_
            refine st_done ?_
            replace hS : Slots 74 [] a [(40, Value.bool (x20)), (0, Value.pointer (some ⟨g2, 0, none⟩)), (2, Value.pointer (some ⟨g3, 0, none⟩)), (3, eV w0 ((none : Option Nat))), (4, Value.bool (y5.1 == 45)), (5, strV (y12.1)), (6, Value.int .i64 (0))] := (hS.part (.cons rfl (.cons rfl (.cons rfl (.cons rfl (.cons rfl (.cons rfl (.cons rfl (.nil _)))))))))
            refine x_then ?_
            obtain rfl := Option.some.inj h18
            exact ⟨(hS.part (.cons rfl (.cons rfl (.cons rfl (.cons rfl (.cons rfl (.cons rfl (.cons rfl (.nil _))))))))), ((hM.pull 1 rfl rfl).pull 1 rfl rfl)⟩
      · rintro a w ⟨hS, hM⟩
        refine st_val hS rfl rfl (by decide) (r_move rfl (hS.ev_ rfl)) fun a hS => ?_
        obtain ⟨x25, h26, h⟩ := bindO h
        refine wl_cut 6 (fun a w => Slots 74 [] a [(0, Value.pointer (some ⟨g2, 0, none⟩)), (2, Value.pointer (some ⟨g3, 0, none⟩)), (3, eV w0 ((none : Option Nat))), (4, Value.bool (y5.1 == 45)), (5, strV (y12.1)), (6, Value.int .i64 (0)), (47, Value.bool (x25))] ∧ Sat w0 w K14 (SP.blk g2 62 [strV (y12.2.f_s), Value.int .i64 (y12.2.f_at)] :: SP.blk g3 24 [Value.int .i64 (0), strV (([] : List UInt8)), Value.int .i64 (0), Value.slice none 0 0, Value.int .i64 (0)] :: L)) ?_ ?_
        ·
          skip
          rcases ifB h26 with ⟨hc27, h26⟩ | ⟨hc27, h26⟩
          ·
            replace hS := hS.known (k := 41) rfl hc27
            refine st_off hS rfl rfl rfl rfl rfl rfl (by decide) fun a hS => ?_
            refine st_off hS rfl rfl rfl rfl rfl rfl (by decide) fun a hS => ?_
            refine st_off_undef hS rfl rfl rfl rfl rfl (by decide) fun a hS => ?_
            refine st_off_undef hS rfl rfl rfl rfl rfl (by decide) fun a hS => ?_
            refine st_off hS rfl rfl rfl rfl rfl rfl (by decide) fun a hS => ?_
            refine st_val hS rfl rfl (by decide) (r_pick_true rfl (hS.ev_ rfl) rfl (hS.ev_ rfl)) fun a hS => ?_
            refine st_done ?_
            replace hS : Slots 74 [] a [(47, Value.bool (true)), (0, Value.pointer (some ⟨g2, 0, none⟩)), (2, Value.pointer (some ⟨g3, 0, none⟩)), (3, eV w0 ((none : Option Nat))), (4, Value.bool (y5.1 == 45)), (5, strV (y12.1)), (6, Value.int .i64 (0))] := (hS.part (.cons rfl (.cons rfl (.cons rfl (.cons rfl (.cons rfl (.cons rfl (.cons rfl (.nil _)))))))))
            refine x_then ?_
            obtain rfl := Option.some.inj h26
            exact ⟨(hS.part (.cons rfl (.cons rfl (.cons rfl (.cons rfl (.cons rfl (.cons rfl (.cons rfl (.nil _))))))))), ((hM.pull 1 rfl rfl).pull 1 rfl rfl)⟩
          ·
            replace hS := hS.known (k := 41) rfl hc27
            refine st_want hS rfl rfl rfl rfl rfl (by decide) (r_move rfl (hS.ev_ rfl)) fun a hS => ?_
            refine st_want hS rfl rfl rfl rfl rfl (by decide) (r_move rfl (hS.ev_ rfl)) fun a hS => ?_
            obtain ⟨x28, h29, h26⟩ := bindO h26
            refine wl_cut 3 (fun a w => Slots 74 [] a [(0, Value.pointer (some ⟨g2, 0, none⟩)), (2, Value.pointer (some ⟨g3, 0, none⟩)), (3, eV w0 ((none : Option Nat))), (4, Value.bool (y5.1 == 45)), (5, strV (y12.1)), (6, Value.int .i64 (0)), (41, Value.bool (false)), (46, Value.bool (x28))] ∧ Sat w0 w K14 (SP.blk g2 62 [strV (y12.2.f_s), Value.int .i64 (y12.2.f_at)] :: SP.blk g3 24 [Value.int .i64 (0), strV (([] : List UInt8)), Value.int .i64 (0), Value.slice none 0 0, Value.int .i64 (0)] :: L)) ?_ ?_
            ·
              skip
              rcases ifB h29 with ⟨hc30, h29⟩ | ⟨hc30, h29⟩
              ·
                replace hS := hS.known (k := 43) rfl hc30
                refine st_want hS rfl rfl rfl rfl rfl (by decide) (r_move rfl (hS.ev_ rfl)) fun a hS => ?_
                refine st_want hS rfl rfl rfl rfl rfl (by decide) (r_seq rfl (hS.ev_ rfl) (hS.ev_ (v := strV (([48] : List UInt8))) rfl)) fun a hS => ?_
                refine st_want hS rfl rfl rfl rfl rfl (by decide) (r_pick_true rfl (hS.ev_ rfl) rfl (hS.ev_ rfl)) fun a hS => ?_
                refine st_done ?_
                replace hS : Slots 74 [] a [(46, Value.bool (y12.1 == ([48] : List UInt8))), (41, Value.bool (false)), (0, Value.pointer (some ⟨g2, 0, none⟩)), (2, Value.pointer (some ⟨g3, 0, none⟩)), (3, eV w0 ((none : Option Nat))), (4, Value.bool (y5.1 == 45)), (5, strV (y12.1)), (6, Value.int .i64 (0))] := (hS.part (.cons rfl (.cons rfl (.cons rfl (.cons rfl (.cons rfl (.cons rfl (.cons rfl (.cons rfl (.nil _))))))))))
                refine x_then ?_
                obtain rfl := Option.some.inj h29
                exact ⟨(hS.part (.cons rfl (.cons rfl (.cons rfl (.cons rfl (.cons rfl (.cons rfl (.cons rfl (.cons rfl (.nil _)))))))))), ((hM.pull 1 rfl rfl).pull 1 rfl rfl)⟩
              ·
                replace hS := hS.known (k := 43) rfl hc30
                refine st_off hS rfl rfl rfl rfl rfl rfl (by decide) fun a hS => ?_
                refine st_off hS rfl rfl rfl rfl rfl rfl (by decide) fun a hS => ?_
                refine st_want hS rfl rfl rfl rfl rfl (by decide) (r_pick_false rfl (hS.ev_ rfl) rfl (hS.ev_ rfl)) fun a hS => ?_
                refine st_done ?_
                replace hS : Slots 74 [] a [(46, Value.bool (false)), (41, Value.bool (false)), (0, Value.pointer (some ⟨g2, 0, none⟩)), (2, Value.pointer (some ⟨g3, 0, none⟩)), (3, eV w0 ((none : Option Nat))), (4, Value.bool (y5.1 == 45)), (5, strV (y12.1)), (6, Value.int .i64 (0))] := (hS.part (.cons rfl (.cons rfl (.cons rfl (.cons rfl (.cons rfl (.cons rfl (.cons rfl (.cons rfl (.nil _))))))))))
                refine x_then ?_
                obtain rfl := Option.some.inj h29
                exact ⟨(hS.part (.cons rfl (.cons rfl (.cons rfl (.cons rfl (.cons rfl (.cons rfl (.cons rfl (.cons rfl (.nil _)))))))))), ((hM.pull 1 rfl rfl).pull 1 rfl rfl)⟩
            · rintro a w ⟨hS, hM⟩
              refine st_val hS rfl rfl (by decide) (r_pick_false rfl (hS.ev_ rfl) rfl (hS.ev_ rfl)) fun a hS => ?_
              refine st_done ?_
              replace hS : Slots 74 [] a [(47, Value.bool (x28)), (0, Value.pointer (some ⟨g2, 0, none⟩)), (2, Value.pointer (some ⟨g3, 0, none⟩)), (3, eV w0 ((none : Option Nat))), (4, Value.bool (y5.1 == 45)), (5, strV (y12.1)), (6, Value.int .i64 (0))] := (hS.part (.cons rfl (.cons rfl (.cons rfl (.cons rfl (.cons rfl (.cons rfl (.cons rfl (.nil _)))))))))
              refine x_then ?_
              obtain rfl := Option.some.inj h26
              exact ⟨(hS.part (.cons rfl (.cons rfl (.cons rfl (.cons rfl (.cons rfl (.cons rfl (.cons rfl (.nil _))))))))), ((hM.pull 1 rfl rfl).pull 1 rfl rfl)⟩
        · rintro a w ⟨hS, hM⟩
          refine st_val hS rfl rfl (by decide) (r_move rfl (hS.ev_ rfl)) fun a hS => ?_
          obtain ⟨x32, h33, h⟩ := bindO h
          refine wl_cut 4 (fun a w => ∃ (K31 : Hp), Hp.le K14 K31 ∧ Slots 74 [] a [(2, Value.pointer (some ⟨g3, 0, none⟩)), (3, eV w0 ((none : Option Nat))), (4, Value.bool (y5.1 == 45)), (5, strV (y12.1)), (6, Value.int .i64 (0)), (52, Value.bool (x32.1))] ∧ Sat w0 w K31 (SP.blk g2 62 [strV (x32.2.1), Value.int .i64 (x32.2.2)] :: SP.blk g3 24 [Value.int .i64 (0), strV (([] : List UInt8)), Value.int .i64 (0), Value.slice none 0 0, Value.int .i64 (0)] :: L)) ?_ ?_
          ·
            skip
            rcases ifB h33 with ⟨hc34, h33⟩ | ⟨hc34, h33⟩
            ·
              replace hS := hS.known (k := 48) rfl hc34
              refine st_off hS rfl rfl rfl rfl rfl rfl (by decide) fun a hS => ?_
              refine st_off hS rfl rfl rfl rfl rfl rfl (by decide) fun a hS => ?_
              refine st_off hS rfl rfl rfl rfl rfl rfl (by decide) fun a hS => ?_
              refine st_val hS rfl rfl (by decide) (r_pick_true rfl (hS.ev_ rfl) rfl (hS.ev_ rfl)) fun a hS => ?_
              refine st_done ?_
              replace hS : Slots 74 [] a [(52, Value.bool (true)), (2, Value.pointer (some ⟨g3, 0, none⟩)), (3, eV w0 ((none : Option Nat))), (4, Value.bool (y5.1 == 45)), (5, strV (y12.1)), (6, Value.int .i64 (0))] := (hS.part (.cons rfl (.cons rfl (.cons rfl (.cons rfl (.cons rfl (.cons rfl (.nil _))))))))
              refine x_then ?_
              obtain rfl := Option.some.inj h33
              exact ⟨K14, (Hp.le.refl _), (hS.part (.cons rfl (.cons rfl (.cons rfl (.cons rfl (.cons rfl (.cons rfl (.nil _)))))))), ((hM.pull 1 rfl rfl).pull 1 rfl rfl)⟩
            ·
              replace hS := hS.known (k := 48) rfl hc34
              refine st_want hS rfl rfl rfl rfl rfl (by decide) (r_move rfl (hS.ev_ rfl)) fun a hS => ?_
              obtain ⟨y35, h36, h33⟩ := bindO h33
              have hc38 := W_reader_peek_c hG h36 hM
              refine g_want hS rfl rfl rfl rfl (e_call rfl Tryd.func38 rfl rfl (args2 (hS.ev_ rfl) (hS.ev_ rfl)) hc38 ?_)
              rintro _ w ⟨K37, hlK37, hM, rfl⟩
              refine ⟨_, rfl, ?_⟩
              refine pl hS rfl (by decide) fun a hS => ?_
              obtain ⟨y39, h40, h33⟩ := bindO h33
              have hc42 := W_goes_c hG h40 hM
              refine g_want hS rfl rfl rfl rfl (e_call rfl Tryd.func25 rfl rfl (args1 (hS.ev_ rfl)) hc42 ?_)
              rintro _ w ⟨K41, hlK41, hM, rfl⟩
              refine ⟨_, rfl, ?_⟩
              refine pl hS rfl (by decide) fun a hS => ?_
              refine st_val hS rfl rfl (by decide) (r_pick_false rfl (hS.ev_ rfl) rfl (hS.ev_ rfl)) fun a hS => ?_
              refine st_done ?_
              replace hS : Slots 74 [] a [(52, Value.bool (y39)), (2, Value.pointer (some ⟨g3, 0, none⟩)), (3, eV w0 ((none : Option Nat))), (4, Value.bool (y5.1 == 45)), (5, strV (y12.1)), (6, Value.int .i64 (0))] := (hS.part (.cons rfl (.cons rfl (.cons rfl (.cons rfl (.cons rfl (.cons rfl (.nil _))))))))
              refine x_then ?_
              obtain rfl := Option.some.inj h33
              exact ⟨K41, (hlK37.trans hlK41), (hS.part (.cons rfl (.cons rfl (.cons rfl (.cons rfl (.cons rfl (.cons rfl (.nil _)))))))), ((hM.pull 1 rfl rfl).pull 1 rfl rfl)⟩
          · rintro a w ⟨K31, hlK31, hS, hM⟩
            refine st_val hS rfl rfl (by decide) (r_assign rfl (hS.ev_ rfl)) fun a hS => ?_
            refine st_done ?_
            replace hS : Slots 74 [] a [(28, Value.bool (x32.1)), (2, Value.pointer (some ⟨g3, 0, none⟩)), (3, eV w0 ((none : Option Nat))), (4, Value.bool (y5.1 == 45)), (5, strV (y12.1)), (6, Value.int .i64 (0))] := (hS.part (.cons rfl (.cons rfl (.cons rfl (.cons rfl (.cons rfl (.cons rfl (.nil _))))))))
            refine x_then ?_
            rcases ifB h with ⟨hc43, h⟩ | ⟨hc43, h⟩
            · refine c_cond_true (hS.ev_ rfl) hc43 ?_
              refine wp_seq ?_
              refine tk_start #[false, false, false, false] mixed_ rfl rfl ?_
              replace hM := hM.drew
              generalize w.drew = w at hM ⊢
              refine dk_any (i := 0) #[true, false, false, false] hS rfl (by kernel_rfl) rfl rfl (by decide) (fun w => r_build (cs := [Value.int .i64 (0), strV (([] : List UInt8)), Value.int .i64 (0), Value.slice none 0 0, Value.int .i64 (0)]) rfl (parts_ev hS rfl) (by kernel_rfl)) fun a hS => ?_
              refine dk_val (i := 1) (S := Rd w0 K31 []) #[true, true, false, false] hS rfl (by kernel_rfl) rfl rfl (by decide) (Rd.up (Hp.le.refl _) hM.nil_) (fun w hR => r_ldG rfl ag_41 (hS.ev_ rfl) (hG 1 (by decide)) hR) fun a hS => ?_
              replace hM := hM.pull 1 rfl rfl
              refine dk_one (i := 2) #[true, true, true, false] rfl (by kernel_rfl) rfl (e_storeN (vs := [Value.int .i64 (0), strV (([] : List UInt8)), Value.int .i64 (0), Value.slice none 0 0, Value.int .i64 (0)]) hM rfl ti_24 (hS.ev_ rfl) (hS.ev_ rfl) (ones_cons rfl (ones_cons rfl (ones_cons rfl (ones_cons rfl (ones_cons rfl ones_nil))))) (Nat.le_of_ble_eq_true rfl) fun w hM => ?_)
              have hM : Sat w0 w K31 (SP.blk g3 24 [Value.int .i64 (0), strV (([] : List UInt8)), Value.int .i64 (0), Value.slice none 0 0, Value.int .i64 (0)] :: SP.blk g2 62 [strV (x32.2.1), Value.int .i64 (x32.2.2)] :: L) := hM
              refine pT0 hS rfl (Dem.keep (fun _ => Rd.up (Hp.le.refl _) hM.nil_) Dem.nil) fun a hS => ?_
              refine dk_any (i := 3) #[true, true, true, true] hS rfl (by kernel_rfl) rfl rfl (by decide) (fun w => r_assign rfl (hS.ev_ rfl)) fun a hS => ?_
              refine tk_done (by kernel_rfl) ?_
              replace hS : Slots 74 [] a [(3, eV w0 ((some 1 : Option Nat))), (2, Value.pointer (some ⟨g3, 0, none⟩)), (4, Value.bool (y5.1 == 45)), (5, strV (y12.1)), (6, Value.int .i64 (0))] := (hS.part (.cons rfl (.cons rfl (.cons rfl (.cons rfl (.cons rfl (.nil _)))))))
              refine x_then ?_
              refine wp_ret ?_
              refine x_block_ret ?_
              refine x_then_ret ?_
              have hr' := Option.some.inj h
              subst hr'
              refine retR2 (.inr rfl) hS rfl ⟨_, rfl, lv_N (cs' := [Value.int .i64 (0), strV (([] : List UInt8)), Value.int .i64 (0), Value.slice none 0 0, Value.int .i64 (0)]) hM ag_24 ti_24 rfl⟩ (show Sl.look _ _ = some (eV w0 ((some 1 : Option Nat))) from rfl) ?_
              exact ⟨K31, (Value.slice none 0 0), ((hlK7.trans hlK14).trans hlK31), (hM).tail, rfl, (Kd.sl_nil _ _)⟩
            · refine c_cond_false (hS.ev_ rfl) hc43 ?_
              refine wp_skip ?_
              refine x_block ?_
              refine x_then ?_
              refine wp_seq ?_
              refine wp_seq ?_
              refine wp_region_lit ?_
              refine st_val hS rfl rfl (by decide) (r_move rfl (hS.ev_ rfl)) fun a hS => ?_
              obtain ⟨h47, h⟩ := bindU h
              refine wl_cons rfl (e_bytes hM rfl un_9 un_51 un_5 (hS.ev_ rfl) (req_some h47) fun v45 K44 w hlK44 hM f46 => ?_)
              refine pl hS rfl (by decide) fun a hS => ?_
              refine st_val hS rfl rfl (by decide) (r_len_sl rfl un_51 (hS.ev_ rfl) f46) fun a hS => ?_
              refine st_val hS rfl rfl (by decide) (r_move rfl (hS.ev_ rfl)) fun a hS => ?_
              refine st_done ?_
              replace hS : Slots 74 [] a [(58, Value.int .i64 (0)), (57, Value.int .i64 ((y12.1.length : Int))), (56, v45), (2, Value.pointer (some ⟨g3, 0, none⟩)), (3, eV w0 ((none : Option Nat))), (4, Value.bool (y5.1 == 45)), (6, Value.int .i64 (0))] := (hS.part (.cons rfl (.cons rfl (.cons rfl (.cons rfl (.cons rfl (.cons rfl (.cons rfl (.nil _)))))))))
              refine x_then ?_
              refine wp_block ?_
              obtain ⟨o55, h56, h⟩ := bindO h
              refine c_loop_ways (fun e a w => (e = .exit 1 ∧ ∃ (K57 : Hp), Hp.le K44 K57 ∧ Slots 74 [] a [(2, Value.pointer (some ⟨g3, 0, none⟩)), (3, eV w0 ((none : Option Nat))), (4, Value.bool (y5.1 == 45)), (6, Value.int .i64 (o55))] ∧ Sat w0 w K57 (SP.blk g2 62 [strV (x32.2.1), Value.int .i64 (x32.2.2)] :: SP.blk g3 24 [Value.int .i64 (0), strV (([] : List UInt8)), Value.int .i64 (0), Value.slice none 0 0, Value.int .i64 (0)] :: L))) ?_ ?_
              · intro c Q hc hQ
                have key : ∀ (x53 : Int) (x54 : Int) (r' : Int), W_reader_number_l1 y12 x53 x54 = some r' → r' = o55 → ∀ (K52 : Hp) (a : Act) (w : World), Hp.le K44 K52 → Slots 74 [] a [(58, Value.int .i64 (x53)), (57, Value.int .i64 ((y12.1.length : Int))), (56, v45), (2, Value.pointer (some ⟨g3, 0, none⟩)), (3, eV w0 ((none : Option Nat))), (4, Value.bool (y5.1 == 45)), (6, Value.int .i64 (x54))] → Sat w0 w K52 (SP.blk g2 62 [strV (x32.2.1), Value.int .i64 (x32.2.2)] :: SP.blk g3 24 [Value.int .i64 (0), strV (([] : List UInt8)), Value.int .i64 (0), Value.slice none 0 0, Value.int .i64 (0)] :: L) → Rnd Tryd.prog c Q a w := by
                  refine W_reader_number_l1.partial_correctness y12 _ ?_
                  intro W_reader_number_l1_rec ih x53 x54 r' h hr K52  a w hlK52 hS hM 
                  subst hc
                  refine c_round ?_
                  refine wp_seq ?_
                  refine wp_region_lit ?_
                  refine st_val hS rfl rfl (by decide) (r_cmp rfl (hS.ev_ rfl) (hS.ev_ rfl) rfl) fun a hS => ?_
                  refine st_done ?_
                  replace hS : Slots 74 [] a [(59, Value.bool (decide (x53 < ((y12.1.length : Int))))), (58, Value.int .i64 (x53)), (57, Value.int .i64 ((y12.1.length : Int))), (56, v45), (2, Value.pointer (some ⟨g3, 0, none⟩)), (3, eV w0 ((none : Option Nat))), (4, Value.bool (y5.1 == 45)), (6, Value.int .i64 (x54))] := (hS.part (.cons rfl (.cons rfl (.cons rfl (.cons rfl (.cons rfl (.cons rfl (.cons rfl (.cons rfl (.nil _))))))))))
                  refine x_then ?_
                  refine wp_seq ?_
                  rcases ifB h with ⟨hc58, h⟩ | ⟨hc58, h⟩
                  · refine c_cond_true (hS.ev_ rfl) hc58 ?_
                    refine wp_skip ?_
                    refine x_then ?_
                    refine wp_seq ?_
                    refine wp_block ?_
                    refine wp_seq ?_
                    refine wp_region_lit ?_
                    obtain ⟨e59, h60, h⟩ := bindO h
                    obtain ⟨ad61, cp62, cs63, hv64, hr65, h0_66, h1_67, hq68⟩ := sl_at f46 h60 (by decide)
                    obtain rfl := hr65
                    refine st_val hS rfl rfl (by decide) (r_idx_sl rfl un_51 ti_5 (hS.ev_ rfl) hv64 (hS.ev_ rfl) h0_66 h1_67) fun a hS => ?_
                    refine st_val hS rfl rfl (by decide) (r_ld1_k rfl ag_5 (hS.ev_ rfl) hq68 rfl (Rd.up hlK52 hM.nil_)) fun a hS => ?_
                    refine st_val hS rfl rfl (by decide) (r_assign rfl (hS.ev_ rfl)) fun a hS => ?_
                    refine st_done ?_
                    replace hS : Slots 74 [] a [(8, Value.int .u8 (b8 (e59))), (58, Value.int .i64 (x53)), (57, Value.int .i64 ((y12.1.length : Int))), (56, v45), (2, Value.pointer (some ⟨g3, 0, none⟩)), (3, eV w0 ((none : Option Nat))), (4, Value.bool (y5.1 == 45)), (6, Value.int .i64 (x54))] := (hS.part (.cons rfl (.cons rfl (.cons rfl (.cons rfl (.cons rfl (.cons rfl (.cons rfl (.cons rfl (.nil _))))))))))
                    refine x_then ?_
                    refine wp_region_lit ?_
                    refine st_val hS rfl rfl (by decide) (r_move rfl (hS.ev_ rfl)) fun a hS => ?_
                    refine st_val hS rfl rfl (by decide) (r_mul rfl (hS.ev_ rfl) (hS.ev_ rfl)) fun a hS => ?_
                    refine st_val hS rfl rfl (by decide) (r_move rfl (hS.ev_ rfl)) fun a hS => ?_
                    refine st_val hS rfl rfl (by decide) (r_sub8 rfl (hS.ev_ rfl) (hS.ev_ (v := Value.int .u8 (b8 (48))) rfl)) fun a hS => ?_
                    refine st_val hS rfl rfl (by decide) (r_conv_8i rfl un_5 un_3 (hS.ev_ rfl)) fun a hS => ?_
                    refine st_val hS rfl rfl (by decide) (r_add rfl (hS.ev_ rfl) (hS.ev_ rfl)) fun a hS => ?_
                    refine st_val hS rfl rfl (by decide) (r_assign rfl (hS.ev_ rfl)) fun a hS => ?_
                    refine st_done ?_
                    replace hS : Slots 74 [] a [(6, Value.int .i64 (w64 ((w64 (10 * x54)) + (b8 (e59 - 48))))), (58, Value.int .i64 (x53)), (57, Value.int .i64 ((y12.1.length : Int))), (56, v45), (2, Value.pointer (some ⟨g3, 0, none⟩)), (3, eV w0 ((none : Option Nat))), (4, Value.bool (y5.1 == 45))] := (hS.part (.cons rfl (.cons rfl (.cons rfl (.cons rfl (.cons rfl (.cons rfl (.cons rfl (.nil _)))))))))
                    refine x_block ?_
                    refine x_then ?_
                    refine wp_region_lit ?_
                    refine st_val hS rfl rfl (by decide) (r_add rfl (hS.ev_ rfl) (hS.ev_ rfl)) fun a hS => ?_
                    refine st_val hS rfl rfl (by decide) (r_move rfl (hS.ev_ rfl)) fun a hS => ?_
                    refine st_done ?_
                    replace hS : Slots 74 [] a [(58, Value.int .i64 (w64 (x53 + 1))), (6, Value.int .i64 (w64 ((w64 (10 * x54)) + (b8 (e59 - 48))))), (57, Value.int .i64 ((y12.1.length : Int))), (56, v45), (2, Value.pointer (some ⟨g3, 0, none⟩)), (3, eV w0 ((none : Option Nat))), (4, Value.bool (y5.1 == 45))] := (hS.part (.cons rfl (.cons rfl (.cons rfl (.cons rfl (.cons rfl (.cons rfl (.cons rfl (.nil _)))))))))
                    refine x_then ?_
                    exact ih (w64 (x53 + 1)) (w64 ((w64 (10 * x54)) + (b8 (e59 - 48)))) _ h hr K52 _ _ hlK52 (hS.part (.cons rfl (.cons rfl (.cons rfl (.cons rfl (.cons rfl (.cons rfl (.cons rfl (.nil _))))))))) (((hM.pull 1 rfl rfl).pull 1 rfl rfl))
                  · refine c_cond_false (hS.ev_ rfl) hc58 ?_
                    refine wp_exit ?_
                    refine x_then_exit ?_
                    refine x_then_exit ?_
                    have ho' := (Option.some.inj h).trans hr
                    refine hQ _ _ _ ?_
                    subst ho'
                    exact ⟨rfl, K52, hlK52, (hS.part (.cons rfl (.cons rfl (.cons rfl (.cons rfl (.nil _)))))), ((hM.pull 1 rfl rfl).pull 1 rfl rfl)⟩
                exact key 0 0 _ h56 rfl K44 _ _ (Hp.le.refl _) (hS.part (.cons rfl (.cons rfl (.cons rfl (.cons rfl (.cons rfl (.cons rfl (.cons rfl (.nil _))))))))) (((hM.pull 1 rfl rfl).pull 1 rfl rfl))
              · rintro e a w ⟨rfl, K57, hlK57, hS, hM⟩
                refine x_block_here ?_
                refine x_then ?_
                obtain ⟨x69, h70, h⟩ := bindO h
                refine c_cut (fun a w => Slots 74 [] a [(2, Value.pointer (some ⟨g3, 0, none⟩)), (3, eV w0 ((none : Option Nat))), (6, Value.int .i64 (x69))] ∧ Sat w0 w K57 (SP.blk g2 62 [strV (x32.2.1), Value.int .i64 (x32.2.2)] :: SP.blk g3 24 [Value.int .i64 (0), strV (([] : List UInt8)), Value.int .i64 (0), Value.slice none 0 0, Value.int .i64 (0)] :: L)) ?_ ?_
                ·
                  refine wp_seq ?_
                  refine wp_region_lit ?_
                  refine st_val hS rfl rfl (by decide) (r_move rfl (hS.ev_ rfl)) fun a hS => ?_
                  refine st_done ?_
                  replace hS : Slots 74 [] a [(69, Value.bool (y5.1 == 45)), (2, Value.pointer (some ⟨g3, 0, none⟩)), (3, eV w0 ((none : Option Nat))), (6, Value.int .i64 (o55))] := (hS.part (.cons rfl (.cons rfl (.cons rfl (.cons rfl (.nil _))))))
                  refine x_then ?_
                  rcases ifB h70 with ⟨hc71, h70⟩ | ⟨hc71, h70⟩
                  · refine c_cond_true (hS.ev_ rfl) hc71 ?_
                    refine wp_region_lit ?_
                    refine st_val hS rfl rfl (by decide) (r_move rfl (hS.ev_ rfl)) fun a hS => ?_
                    refine st_val hS rfl rfl (by decide) (r_neg rfl (hS.ev_ rfl)) fun a hS => ?_
                    refine st_val hS rfl rfl (by decide) (r_assign rfl (hS.ev_ rfl)) fun a hS => ?_
                    refine st_done ?_
                    replace hS : Slots 74 [] a [(6, Value.int .i64 (w64 (0 - o55))), (2, Value.pointer (some ⟨g3, 0, none⟩)), (3, eV w0 ((none : Option Nat)))] := (hS.part (.cons rfl (.cons rfl (.cons rfl (.nil _)))))
                    refine x_then ?_
                    obtain rfl := Option.some.inj h70
                    exact ⟨(hS.part (.cons rfl (.cons rfl (.cons rfl (.nil _))))), ((hM.pull 1 rfl rfl).pull 1 rfl rfl)⟩
                  · refine c_cond_false (hS.ev_ rfl) hc71 ?_
                    refine wp_skip ?_
                    refine x_then ?_
                    obtain rfl := Option.some.inj h70
                    exact ⟨(hS.part (.cons rfl (.cons rfl (.cons rfl (.nil _))))), ((hM.pull 1 rfl rfl).pull 1 rfl rfl)⟩
                · rintro a w ⟨hS, hM⟩
                  refine wp_seq ?_
                  refine wp_region_lit ?_
                  refine st_val hS rfl rfl (by decide) (r_move rfl (hS.ev_ rfl)) fun a hS => ?_
                  refine st_val hS rfl rfl (by decide) (r_build (cs := [Value.int .i64 (2), strV (([] : List UInt8)), Value.int .i64 (x69), Value.slice none 0 0, Value.int .i64 (0)]) rfl (parts_ev hS rfl) (by kernel_rfl)) fun a hS => ?_
                  replace hM := hM.pull 1 rfl rfl
                  refine wl_cons rfl (e_storeN (vs := [Value.int .i64 (2), strV (([] : List UInt8)), Value.int .i64 (x69), Value.slice none 0 0, Value.int .i64 (0)]) hM rfl ti_24 (hS.ev_ rfl) (hS.ev_ rfl) (ones_cons rfl (ones_cons rfl (ones_cons rfl (ones_cons rfl (ones_cons rfl ones_nil))))) (Nat.le_of_ble_eq_true rfl) fun w hM => ?_)
                  have hM : Sat w0 w K57 (SP.blk g3 24 [Value.int .i64 (2), strV (([] : List UInt8)), Value.int .i64 (x69), Value.slice none 0 0, Value.int .i64 (0)] :: SP.blk g2 62 [strV (x32.2.1), Value.int .i64 (x32.2.2)] :: L) := hM
                  refine pl0 hS rfl fun a hS => ?_
                  refine st_val hS rfl rfl (by decide) (r_assign rfl (hS.ev_ rfl)) fun a hS => ?_
                  refine st_done ?_
                  replace hS : Slots 74 [] a [(3, eV w0 ((none : Option Nat))), (2, Value.pointer (some ⟨g3, 0, none⟩))] := (hS.part (.cons rfl (.cons rfl (.nil _))))
                  refine x_then ?_
                  refine wp_ret ?_
                  have hr' := Option.some.inj h
                  subst hr'
                  refine retR2 (.inr rfl) hS rfl ⟨_, rfl, lv_N (cs' := [Value.int .i64 (2), strV (([] : List UInt8)), Value.int .i64 (x69), Value.slice none 0 0, Value.int .i64 (0)]) hM ag_24 ti_24 rfl⟩ (show Sl.look _ _ = some (eV w0 ((none : Option Nat))) from rfl) ?_
                  exact ⟨K57, (Value.slice none 0 0), ((((hlK7.trans hlK14).trans hlK31).trans hlK44).trans hlK57), (hM).tail, rfl, (Kd.sl_nil _ _)⟩

theorem W_reader_variable_c {w0 w : World} {K : Hp} {L : List SP} {p1 : W_reader} {g2 : Nat} {r : W_Piece × (Option Nat) × W_reader} (hG : Glob w0) (h : W_reader_variable p1 = some r) (hM : Sat w0 w K (SP.blk g2 62 [strV (p1.f_s), Value.int .i64 (p1.f_at)] :: L)) :
    Calls Tryd.prog 48 #[Value.pointer (some ⟨g2, 0, none⟩)] w (fun e w' => ∃ (K' : Hp), Hp.le K K' ∧ Sat w0 w' K' (SP.blk g2 62 [strV (r.2.2.f_s), Value.int .i64 (r.2.2.f_at)] :: L) ∧ e = .returned (Value.tuple #[Value.agg #[strV (r.1.f_Var), strV (r.1.f_Lit)], eV w0 r.2.1])) := by
  refine enter_ (n := 43) (args := [Value.pointer (some ⟨g2, 0, none⟩)]) Tryd.func48 rfl rfl (Nat.le_of_ble_eq_true rfl) fun a hS => ?_
  replace hS : Slots 43 [] a [(0, Value.pointer (some ⟨g2, 0, none⟩))] := hS
  unfold W_reader_variable at h
  refine wp_seq ?_
  refine wp_region_lit ?_
  refine wl_cons rfl (e_alloc (cs := [strV (([] : List UInt8)), strV (([] : List UInt8))]) hM rfl ti_46 rfl fun g3 w hM => ?_)
  refine pl hS rfl (by decide) fun a hS => ?_
  refine st_val hS rfl rfl (by decide) (r_assign rfl (hS.ev_ rfl)) fun a hS => ?_
  refine st_done ?_
  replace hS : Slots 43 [] a [(3, eV w0 ((none : Option Nat))), (2, Value.pointer (some ⟨g3, 0, none⟩)), (0, Value.pointer (some ⟨g2, 0, none⟩))] := (hS.part (.cons rfl (.cons rfl (.cons rfl (.nil _)))))
  refine x_then ?_
  refine wp_seq ?_
  refine wp_seq ?_
  refine wp_region_lit ?_
  refine st_val hS rfl rfl (by decide) (r_move rfl (hS.ev_ rfl)) fun a hS => ?_
  obtain ⟨y5, h6, h⟩ := bindO h
  replace hM := hM.pull 1 rfl rfl
  have hc8 := W_reader_peek_c hG h6 hM
  refine wl_cons rfl (e_call rfl Tryd.func38 rfl rfl (args2 (hS.ev_ rfl) (hS.ev_ rfl)) hc8 ?_)
  rintro _ w ⟨K7, hlK7, hM, rfl⟩
  refine ⟨_, rfl, ?_⟩
  refine pl hS rfl (by decide) fun a hS => ?_
  refine st_val hS rfl rfl (by decide) (r_assign rfl (hS.ev_ rfl)) fun a hS => ?_
  refine st_done ?_
  replace hS : Slots 43 [] a [(4, Value.int .u8 (b8 (y5.1))), (3, eV w0 ((none : Option Nat))), (2, Value.pointer (some ⟨g3, 0, none⟩)), (0, Value.pointer (some ⟨g2, 0, none⟩))] := (hS.part (.cons rfl (.cons rfl (.cons rfl (.cons rfl (.nil _))))))
  refine x_then ?_
  refine wp_block ?_
  refine wp_seq ?_
  refine wp_region_lit ?_
  refine st_val hS rfl rfl (by decide) (r_move rfl (hS.ev_ rfl)) fun a hS => ?_
  obtain ⟨y9, h10, h⟩ := bindO h
  have hc12 := W_reader_ends_c hG h10 hM
  refine wl_cons rfl (e_call rfl Tryd.func29 rfl rfl (args1 (hS.ev_ rfl)) hc12 ?_)
  rintro _ w ⟨K11, hlK11, hM, rfl⟩
  refine ⟨_, rfl, ?_⟩
  refine pl hS rfl (by decide) fun a hS => ?_
  refine st_val hS rfl rfl (by decide) (r_assign rfl (hS.ev_ rfl)) fun a hS => ?_
  refine st_done ?_
  replace hS : Slots 43 [] a [(9, Value.bool (y9.1)), (4, Value.int .u8 (b8 (y5.1))), (3, eV w0 ((none : Option Nat))), (2, Value.pointer (some ⟨g3, 0, none⟩)), (0, Value.pointer (some ⟨g2, 0, none⟩))] := (hS.part (.cons rfl (.cons rfl (.cons rfl (.cons rfl (.cons rfl (.nil _)))))))
  refine x_then ?_
  rcases ifB h with ⟨hc13, h⟩ | ⟨hc13, h⟩
  · refine c_cond_true (hS.ev_ rfl) hc13 ?_
    refine wp_seq ?_
    refine tk_start #[false, false, false, false] mixed_ rfl rfl ?_
    replace hM := hM.drew
    generalize w.drew = w at hM ⊢
    refine dk_any (i := 0) #[true, false, false, false] hS rfl (by kernel_rfl) rfl rfl (by decide) (fun w => r_build (cs := [strV (([] : List UInt8)), strV (([] : List UInt8))]) rfl (parts_ev hS rfl) (by kernel_rfl)) fun a hS => ?_
    refine dk_val (i := 1) (S := Rd w0 K11 []) #[true, true, false, false] hS rfl (by kernel_rfl) rfl rfl (by decide) (Rd.up (Hp.le.refl _) hM.nil_) (fun w hR => r_ldG rfl ag_41 (hS.ev_ rfl) (hG 2 (by decide)) hR) fun a hS => ?_
    replace hM := hM.pull 1 rfl rfl
    refine dk_one (i := 2) #[true, true, true, false] rfl (by kernel_rfl) rfl (e_storeN (vs := [strV (([] : List UInt8)), strV (([] : List UInt8))]) hM rfl ti_46 (hS.ev_ rfl) (hS.ev_ rfl) (ones_cons rfl (ones_cons rfl ones_nil)) (Nat.le_of_ble_eq_true rfl) fun w hM => ?_)
    have hM : Sat w0 w K11 (SP.blk g3 46 [strV (([] : List UInt8)), strV (([] : List UInt8))] :: SP.blk g2 62 [strV (y9.2.f_s), Value.int .i64 (y9.2.f_at)] :: L) := hM
    refine pT0 hS rfl (Dem.keep (fun _ => Rd.up (Hp.le.refl _) hM.nil_) Dem.nil) fun a hS => ?_
    refine dk_any (i := 3) #[true, true, true, true] hS rfl (by kernel_rfl) rfl rfl (by decide) (fun w => r_assign rfl (hS.ev_ rfl)) fun a hS => ?_
    refine tk_done (by kernel_rfl) ?_
    replace hS : Slots 43 [] a [(3, eV w0 ((some 2 : Option Nat))), (2, Value.pointer (some ⟨g3, 0, none⟩)), (0, Value.pointer (some ⟨g2, 0, none⟩))] := (hS.part (.cons rfl (.cons rfl (.cons rfl (.nil _)))))
    refine x_then ?_
    refine wp_ret ?_
    refine x_block_ret ?_
    refine x_then_ret ?_
    have hr' := Option.some.inj h
    subst hr'
    refine retR2 (.inr rfl) hS rfl ⟨_, rfl, lv_N (cs' := [strV (([] : List UInt8)), strV (([] : List UInt8))]) hM ag_46 ti_46 rfl⟩ (show Sl.look _ _ = some (eV w0 ((some 2 : Option Nat))) from rfl) ?_
    exact ⟨K11, (hlK7.trans hlK11), (hM).tail, rfl⟩
  · refine c_cond_false (hS.ev_ rfl) hc13 ?_
    refine wp_seq ?_
    refine wp_region_lit ?_
    refine st_val hS rfl rfl (by decide) (r_move rfl (hS.ev_ rfl)) fun a hS => ?_
    obtain ⟨y14, h15, h⟩ := bindO h
    have hc17 := W_figure_c hG h15 hM
    refine wl_cons rfl (e_call rfl Tryd.func32 rfl rfl (args1 (hS.ev_ rfl)) hc17 ?_)
    rintro _ w ⟨K16, hlK16, hM, rfl⟩
    refine ⟨_, rfl, ?_⟩
    refine pl hS rfl (by decide) fun a hS => ?_
    refine st_val hS rfl rfl (by decide) (r_assign rfl (hS.ev_ rfl)) fun a hS => ?_
    refine st_done ?_
    replace hS : Slots 43 [] a [(14, Value.bool (y14)), (4, Value.int .u8 (b8 (y5.1))), (3, eV w0 ((none : Option Nat))), (2, Value.pointer (some ⟨g3, 0, none⟩)), (0, Value.pointer (some ⟨g2, 0, none⟩))] := (hS.part (.cons rfl (.cons rfl (.cons rfl (.cons rfl (.cons rfl (.nil _)))))))
    refine x_then ?_
    rcases ifB h with ⟨hc18, h⟩ | ⟨hc18, h⟩
    · refine c_cond_true (hS.ev_ rfl) hc18 ?_
      refine wp_seq ?_
      refine wp_region_lit ?_
      refine st_val hS rfl rfl (by decide) (r_move rfl (hS.ev_ rfl)) fun a hS => ?_
      refine st_val hS rfl rfl (by decide) (r_nilCheck rfl (hS.ev_ rfl)) fun a hS => ?_
      refine st_val hS rfl rfl (by decide) (r_fld_b rfl fo_62_1 (hS.ev_ rfl)) fun a hS => ?_
      refine st_val hS rfl rfl (by decide) (r_ld1_b rfl ag_3 (hS.ev_ rfl) rfl (Rd.of hM)) fun a hS => ?_
      refine st_val hS rfl rfl (by decide) (r_add rfl (hS.ev_ rfl) (hS.ev_ rfl)) fun a hS => ?_
      refine st_val hS rfl rfl (by decide) (r_nilCheck rfl (hS.ev_ rfl)) fun a hS => ?_
      refine st_val hS rfl rfl (by decide) (r_fld_b rfl fo_62_1 (hS.ev_ rfl)) fun a hS => ?_
      refine wl_cons rfl (e_store1 hM rfl ti_3 (hS.ev_ rfl) (hS.ev_ rfl) rfl (Nat.lt_of_lt_of_le (Nat.le_of_ble_eq_true rfl) (Nat.le_refl _)) fun w hM => ?_)
      have hM : Sat w0 w K16 (SP.blk g2 62 [strV (y9.2.f_s), Value.int .i64 (w64 (y9.2.f_at + 1))] :: SP.blk g3 46 [strV (([] : List UInt8)), strV (([] : List UInt8))] :: L) := hM
      refine pl0 hS rfl fun a hS => ?_
      refine st_done ?_
      replace hS : Slots 43 [] a [(4, Value.int .u8 (b8 (y5.1))), (3, eV w0 ((none : Option Nat))), (2, Value.pointer (some ⟨g3, 0, none⟩)), (0, Value.pointer (some ⟨g2, 0, none⟩))] := (hS.part (.cons rfl (.cons rfl (.cons rfl (.cons rfl (.nil _))))))
      refine x_then ?_
      refine wp_seq ?_
      refine wp_region_lit ?_
      refine st_val hS rfl rfl (by decide) (r_move rfl (hS.ev_ rfl)) fun a hS => ?_
      refine wl_cons rfl (e_litK (d := Kd.u8) (e := 5) (cs := [Value.int .u8 (b8 (y5.1))]) (xs := ([y5.1] : List UInt8)) hM rfl (parts_ev hS rfl) (by kernel_rfl) ⟨[Value.int .u8 (b8 (y5.1))], [], rfl, rfl, rfl⟩ rfl (by decide) fun v19 K20 w hlK20 hM f21 => ?_)
      refine pl hS rfl (by decide) fun a hS => ?_
      refine st_val hS rfl rfl (by decide) (r_stringR rfl un_51 un_5 un_9 (hS.ev_ rfl) (Rd.of hM.nil_) f21) fun a hS => ?_
      refine st_val hS rfl rfl (by decide) (r_build (cs := [strV (([y5.1] : List UInt8)), strV (([] : List UInt8))]) rfl (parts_ev hS rfl) (by kernel_rfl)) fun a hS => ?_
      replace hM := hM.pull 1 rfl rfl
      refine wl_cons rfl (e_storeN (vs := [strV (([y5.1] : List UInt8)), strV (([] : List UInt8))]) hM rfl ti_46 (hS.ev_ rfl) (hS.ev_ rfl) (ones_cons rfl (ones_cons rfl ones_nil)) (Nat.le_of_ble_eq_true rfl) fun w hM => ?_)
      have hM : Sat w0 w K20 (SP.blk g3 46 [strV (([y5.1] : List UInt8)), strV (([] : List UInt8))] :: SP.blk g2 62 [strV (y9.2.f_s), Value.int .i64 (w64 (y9.2.f_at + 1))] :: L) := hM
      refine pl0 hS rfl fun a hS => ?_
      refine st_val hS rfl rfl (by decide) (r_assign rfl (hS.ev_ rfl)) fun a hS => ?_
      refine st_done ?_
      replace hS : Slots 43 [] a [(3, eV w0 ((none : Option Nat))), (2, Value.pointer (some ⟨g3, 0, none⟩)), (0, Value.pointer (some ⟨g2, 0, none⟩))] := (hS.part (.cons rfl (.cons rfl (.cons rfl (.nil _)))))
      refine x_then ?_
      refine wp_ret ?_
      refine x_block_ret ?_
      refine x_then_ret ?_
      have hr' := Option.some.inj h
      subst hr'
      refine retR2 (.inr rfl) hS rfl ⟨_, rfl, lv_N (cs' := [strV (([y5.1] : List UInt8)), strV (([] : List UInt8))]) hM ag_46 ti_46 rfl⟩ (show Sl.look _ _ = some (eV w0 ((none : Option Nat))) from rfl) ?_
      exact ⟨K20, (((hlK7.trans hlK11).trans hlK16).trans hlK20), (hM).tail, rfl⟩
    · refine c_cond_false (hS.ev_ rfl) hc18 ?_
      refine wp_seq ?_
      refine wp_region_lit ?_
      refine st_val hS rfl rfl (by decide) (r_move rfl (hS.ev_ rfl)) fun a hS => ?_
      obtain ⟨y22, h23, h⟩ := bindO h
      have hc25 := W_begins_c hG h23 hM
      refine wl_cons rfl (e_call rfl Tryd.func23 rfl rfl (args1 (hS.ev_ rfl)) hc25 ?_)
      rintro _ w ⟨K24, hlK24, hM, rfl⟩
      refine ⟨_, rfl, ?_⟩
      refine pl hS rfl (by decide) fun a hS => ?_
      refine st_val hS rfl rfl (by decide) (r_not rfl (hS.ev_ rfl)) fun a hS => ?_
      refine st_val hS rfl rfl (by decide) (r_assign rfl (hS.ev_ rfl)) fun a hS => ?_
      refine st_done ?_
      replace hS : Slots 43 [] a [(28, Value.bool (!y22)), (3, eV w0 ((none : Option Nat))), (2, Value.pointer (some ⟨g3, 0, none⟩)), (0, Value.pointer (some ⟨g2, 0, none⟩))] := (hS.part (.cons rfl (.cons rfl (.cons rfl (.cons rfl (.nil _))))))
      refine x_then ?_
      rcases ifB h with ⟨hc26, h⟩ | ⟨hc26, h⟩
      · refine c_cond_true (hS.ev_ rfl) hc26 ?_
        refine wp_seq ?_
        refine tk_start #[false, false, false, false] mixed_ rfl rfl ?_
        replace hM := hM.drew
        generalize w.drew = w at hM ⊢
        refine dk_any (i := 0) #[true, false, false, false] hS rfl (by kernel_rfl) rfl rfl (by decide) (fun w => r_build (cs := [strV (([] : List UInt8)), strV (([] : List UInt8))]) rfl (parts_ev hS rfl) (by kernel_rfl)) fun a hS => ?_
        refine dk_val (i := 1) (S := Rd w0 K24 []) #[true, true, false, false] hS rfl (by kernel_rfl) rfl rfl (by decide) (Rd.up (Hp.le.refl _) hM.nil_) (fun w hR => r_ldG rfl ag_41 (hS.ev_ rfl) (hG 1 (by decide)) hR) fun a hS => ?_
        replace hM := hM.pull 1 rfl rfl
        refine dk_one (i := 2) #[true, true, true, false] rfl (by kernel_rfl) rfl (e_storeN (vs := [strV (([] : List UInt8)), strV (([] : List UInt8))]) hM rfl ti_46 (hS.ev_ rfl) (hS.ev_ rfl) (ones_cons rfl (ones_cons rfl ones_nil)) (Nat.le_of_ble_eq_true rfl) fun w hM => ?_)
        have hM : Sat w0 w K24 (SP.blk g3 46 [strV (([] : List UInt8)), strV (([] : List UInt8))] :: SP.blk g2 62 [strV (y9.2.f_s), Value.int .i64 (y9.2.f_at)] :: L) := hM
        refine pT0 hS rfl (Dem.keep (fun _ => Rd.up (Hp.le.refl _) hM.nil_) Dem.nil) fun a hS => ?_
        refine dk_any (i := 3) #[true, true, true, true] hS rfl (by kernel_rfl) rfl rfl (by decide) (fun w => r_assign rfl (hS.ev_ rfl)) fun a hS => ?_
        refine tk_done (by kernel_rfl) ?_
        replace hS : Slots 43 [] a [(3, eV w0 ((some 1 : Option Nat))), (2, Value.pointer (some ⟨g3, 0, none⟩)), (0, Value.pointer (some ⟨g2, 0, none⟩))] := (hS.part (.cons rfl (.cons rfl (.cons rfl (.nil _)))))
        refine x_then ?_
        refine wp_ret ?_
        refine x_block_ret ?_
        refine x_then_ret ?_
        have hr' := Option.some.inj h
        subst hr'
        refine retR2 (.inr rfl) hS rfl ⟨_, rfl, lv_N (cs' := [strV (([] : List UInt8)), strV (([] : List UInt8))]) hM ag_46 ti_46 rfl⟩ (show Sl.look _ _ = some (eV w0 ((some 1 : Option Nat))) from rfl) ?_
        exact ⟨K24, (((hlK7.trans hlK11).trans hlK16).trans hlK24), (hM).tail, rfl⟩
      · refine c_cond_false (hS.ev_ rfl) hc26 ?_
        refine wp_skip ?_
        refine x_block ?_
        refine x_then ?_
        refine wp_seq ?_
        refine wp_region_lit ?_
        refine st_val hS rfl rfl (by decide) (r_move rfl (hS.ev_ rfl)) fun a hS => ?_
        obtain ⟨y27, h28, h⟩ := bindO h
        have hc30 := W_reader_name_c hG h28 hM
        refine wl_cons rfl (e_call rfl Tryd.func40 rfl rfl (args1 (hS.ev_ rfl)) hc30 ?_)
        rintro _ w ⟨K29, v31, hlK29, hM, rfl, f32⟩
        refine ⟨_, rfl, ?_⟩
        refine pl hS rfl (by decide) fun a hS => ?_
        refine st_val hS rfl rfl (by decide) (r_move rfl (hS.ev_ rfl)) fun a hS => ?_
        refine st_val hS rfl rfl (by decide) (r_extract rfl (hS.ev_ rfl) rfl) fun a hS => ?_
        refine st_val hS rfl rfl (by decide) (r_extract rfl (hS.ev_ rfl) rfl) fun a hS => ?_
        refine wl_cons rfl (e_alloc (cs := [Value.int .i64 (0), strV (([] : List UInt8)), Value.int .i64 (0), Value.slice none 0 0, Value.int .i64 (0)]) hM rfl ti_24 rfl fun g33 w hM => ?_)
        refine pl hS rfl (by decide) fun a hS => ?_
        refine wl_cons rfl (e_storeN (vs := [Value.int .i64 (y27.1.f_Kind), strV (y27.1.f_Text), Value.int .i64 (y27.1.f_Number), v31, Value.int .i64 (y27.1.f_At)]) hM rfl ti_24 (hS.ev_ rfl) (hS.ev_ rfl) (ones_cons rfl (ones_cons rfl (ones_cons rfl (ones_cons (sl_one f32) (ones_cons rfl ones_nil))))) (Nat.le_of_ble_eq_true rfl) fun w hM => ?_)
        have hM : Sat w0 w K29 (SP.blk g33 24 [Value.int .i64 (y27.1.f_Kind), strV (y27.1.f_Text), Value.int .i64 (y27.1.f_Number), v31, Value.int .i64 (y27.1.f_At)] :: SP.blk g2 62 [strV (y27.2.2.f_s), Value.int .i64 (y27.2.2.f_at)] :: SP.blk g3 46 [strV (([] : List UInt8)), strV (([] : List UInt8))] :: L) := hM
        refine pl0 hS rfl fun a hS => ?_
        refine st_val hS rfl rfl (by decide) (r_assign rfl (hS.ev_ rfl)) fun a hS => ?_
        refine st_done ?_
        replace hS : Slots 43 [] a [(6, eV w0 y27.2.1), (5, Value.pointer (some ⟨g33, 0, none⟩)), (3, eV w0 ((none : Option Nat))), (2, Value.pointer (some ⟨g3, 0, none⟩))] := (hS.part (.cons rfl (.cons rfl (.cons rfl (.cons rfl (.nil _))))))
        refine x_then ?_
        refine wp_seq ?_
        refine wp_region_lit ?_
        refine st_val hS rfl rfl (by decide) (r_fld_b rfl fo_24_1 (hS.ev_ rfl)) fun a hS => ?_
        refine st_val hS rfl rfl (by decide) (r_ld1_b rfl ag_9 (hS.ev_ rfl) rfl (Rd.of hM)) fun a hS => ?_
        refine st_val hS rfl rfl (by decide) (r_build (cs := [strV (y27.1.f_Text), strV (([] : List UInt8))]) rfl (parts_ev hS rfl) (by kernel_rfl)) fun a hS => ?_
        refine st_val hS rfl rfl (by decide) (r_move rfl (hS.ev_ rfl)) fun a hS => ?_
        replace hM := hM.pull 2 rfl rfl
        refine wl_cons rfl (e_storeN (vs := [strV (y27.1.f_Text), strV (([] : List UInt8))]) hM rfl ti_46 (hS.ev_ rfl) (hS.ev_ rfl) (ones_cons rfl (ones_cons rfl ones_nil)) (Nat.le_of_ble_eq_true rfl) fun w hM => ?_)
        have hM : Sat w0 w K29 (SP.blk g3 46 [strV (y27.1.f_Text), strV (([] : List UInt8))] :: SP.blk g33 24 [Value.int .i64 (y27.1.f_Kind), strV (y27.1.f_Text), Value.int .i64 (y27.1.f_Number), v31, Value.int .i64 (y27.1.f_At)] :: SP.blk g2 62 [strV (y27.2.2.f_s), Value.int .i64 (y27.2.2.f_at)] :: L) := hM
        refine pl0 hS rfl fun a hS => ?_
        refine st_val hS rfl rfl (by decide) (r_assign rfl (hS.ev_ rfl)) fun a hS => ?_
        refine st_done ?_
        replace hS : Slots 43 [] a [(3, eV w0 y27.2.1), (2, Value.pointer (some ⟨g3, 0, none⟩))] := (hS.part (.cons rfl (.cons rfl (.nil _))))
        refine x_then ?_
        refine wp_ret ?_
        have hr' := Option.some.inj h
        subst hr'
        refine retR2 (.inr rfl) hS rfl ⟨_, rfl, lv_N (cs' := [strV (y27.1.f_Text), strV (([] : List UInt8))]) hM ag_46 ti_46 rfl⟩ (show Sl.look _ _ = some (eV w0 y27.2.1) from rfl) ?_
        exact ⟨K29, ((((hlK7.trans hlK11).trans hlK16).trans hlK24).trans hlK29), ((hM).tail).tail, rfl⟩

theorem internal_stringslite_IndexByte_c {w0 w : World} {K : Hp} {L : List SP} {p1 : List UInt8} {p2 : UInt8} {r : Int} (hG : Glob w0) (h : internal_stringslite_IndexByte p1 p2 = some r) (hM : Sat w0 w K (L)) :
    Calls Tryd.prog 55 #[strV (p1), Value.int .u8 (b8 (p2))] w (fun e w' => ∃ (K' : Hp), Hp.le K K' ∧ Sat w0 w' K' (L) ∧ e = .returned (Value.int .i64 (r))) := by
  refine enter_ (n := 8) (args := [strV (p1), Value.int .u8 (b8 (p2))]) Tryd.func55 rfl rfl (Nat.le_of_ble_eq_true rfl) fun a hS => ?_
  replace hS : Slots 8 [] a [(0, strV (p1)), (1, Value.int .u8 (b8 (p2)))] := hS
  unfold internal_stringslite_IndexByte at h
  refine wp_seq ?_
  refine wp_region_lit ?_
  refine st_val hS rfl rfl (by decide) (r_assign rfl (hS.ev_ rfl)) fun a hS => ?_
  refine st_done ?_
  replace hS : Slots 8 [] a [(4, Value.int .i64 (0)), (0, strV (p1)), (1, Value.int .u8 (b8 (p2)))] := (hS.part (.cons rfl (.cons rfl (.cons rfl (.nil _)))))
  refine x_then ?_
  refine wp_seq ?_
  refine wp_region_lit ?_
  refine st_val hS rfl rfl (by decide) (r_move rfl (hS.ev_ rfl)) fun a hS => ?_
  refine st_val hS rfl rfl (by decide) (r_move rfl (hS.ev_ rfl)) fun a hS => ?_
  refine st_val hS rfl rfl (by decide) (r_extern (vs := [strV (p1), Value.int .u8 (b8 (p2))]) (ex := Extern.BytealgIndexByte.indexByte) rfl Tryd.func56 rfl rfl (by kernel_rfl) (by kernel_rfl) (args2 (hS.ev_ rfl) (hS.ev_ rfl)) (x_indexByte _ _ _)) fun a hS => ?_
  refine st_val hS rfl rfl (by decide) (r_assign rfl (hS.ev_ rfl)) fun a hS => ?_
  refine st_done ?_
  replace hS : Slots 8 [] a [(4, Value.int .i64 (idxB p1 p2))] := (hS.part (.cons rfl (.nil _)))
  refine x_then ?_
  refine wp_ret ?_
  have hr' := Option.some.inj h
  subst hr'
  refine ret1 (.inr rfl) hS rfl rfl ?_
  exact ⟨K, (Hp.le.refl _), hM, rfl⟩

theorem strings_IndexByte_c {w0 w : World} {K : Hp} {L : List SP} {p1 : List UInt8} {p2 : UInt8} {r : Int} (hG : Glob w0) (h : strings_IndexByte p1 p2 = some r) (hM : Sat w0 w K (L)) :
    Calls Tryd.prog 54 #[strV (p1), Value.int .u8 (b8 (p2))] w (fun e w' => ∃ (K' : Hp), Hp.le K K' ∧ Sat w0 w' K' (L) ∧ e = .returned (Value.int .i64 (r))) := by
  refine enter_ (n := 8) (args := [strV (p1), Value.int .u8 (b8 (p2))]) Tryd.func54 rfl rfl (Nat.le_of_ble_eq_true rfl) fun a hS => ?_
  replace hS : Slots 8 [] a [(0, strV (p1)), (1, Value.int .u8 (b8 (p2)))] := hS
  unfold strings_IndexByte at h
  refine wp_seq ?_
  refine wp_region_lit ?_
  refine st_val hS rfl rfl (by decide) (r_assign rfl (hS.ev_ rfl)) fun a hS => ?_
  refine st_done ?_
  replace hS : Slots 8 [] a [(4, Value.int .i64 (0)), (0, strV (p1)), (1, Value.int .u8 (b8 (p2)))] := (hS.part (.cons rfl (.cons rfl (.cons rfl (.nil _)))))
  refine x_then ?_
  refine wp_seq ?_
  refine wp_region_lit ?_
  refine st_val hS rfl rfl (by decide) (r_move rfl (hS.ev_ rfl)) fun a hS => ?_
  refine st_val hS rfl rfl (by decide) (r_move rfl (hS.ev_ rfl)) fun a hS => ?_
  obtain ⟨y3, h4, h⟩ := bindO h
  have hc6 := internal_stringslite_IndexByte_c hG h4 hM
  refine wl_cons rfl (e_call rfl Tryd.func55 rfl rfl (args2 (hS.ev_ rfl) (hS.ev_ rfl)) hc6 ?_)
  rintro _ w ⟨K5, hlK5, hM, rfl⟩
  refine ⟨_, rfl, ?_⟩
  refine pl hS rfl (by decide) fun a hS => ?_
  refine st_val hS rfl rfl (by decide) (r_assign rfl (hS.ev_ rfl)) fun a hS => ?_
  refine st_done ?_
  replace hS : Slots 8 [] a [(4, Value.int .i64 (y3))] := (hS.part (.cons rfl (.nil _)))
  refine x_then ?_
  refine wp_ret ?_
  have hr' := Option.some.inj h
  subst hr'
  refine ret1 (.inr rfl) hS rfl rfl ?_
  exact ⟨K5, hlK5, hM, rfl⟩

theorem W_digit_c {w0 w : World} {K : Hp} {L : List SP} {p1 : UInt8} {r : Int} (hG : Glob w0) (h : W_digit p1 = some r) (hM : Sat w0 w K (L)) :
    Calls Tryd.prog 53 #[Value.int .u8 (b8 (p1))] w (fun e w' => ∃ (K' : Hp), Hp.le K K' ∧ Sat w0 w' K' (L) ∧ e = .returned (Value.int .i64 (r))) := by
  refine enter_ (n := 13) (args := [Value.int .u8 (b8 (p1))]) Tryd.func53 rfl rfl (Nat.le_of_ble_eq_true rfl) fun a hS => ?_
  replace hS : Slots 13 [] a [(0, Value.int .u8 (b8 (p1)))] := hS
  unfold W_digit at h
  refine wp_seq ?_
  refine wp_region_lit ?_
  refine st_val hS rfl rfl (by decide) (r_assign rfl (hS.ev_ rfl)) fun a hS => ?_
  refine st_done ?_
  replace hS : Slots 13 [] a [(2, Value.int .i64 (0)), (0, Value.int .u8 (b8 (p1)))] := (hS.part (.cons rfl (.cons rfl (.nil _))))
  refine x_then ?_
  obtain ⟨x2, h3, h⟩ := bindO h
  refine c_cut (fun a w => Slots 13 [] a [(2, Value.int .i64 (0)), (0, Value.int .u8 (b8 (x2)))] ∧ Sat w0 w K (L)) ?_ ?_
  ·
    refine wp_seq ?_
    refine wp_region_lit ?_
    refine st_val hS rfl rfl (by decide) (r_move rfl (hS.ev_ rfl)) fun a hS => ?_
    refine st_val hS rfl rfl (by decide) (r_cmp8 rfl (hS.ev_ rfl) (hS.ev_ (v := Value.int .u8 (b8 (65))) rfl) rfl) fun a hS => ?_
    refine st_val hS rfl rfl (by decide) (r_move rfl (hS.ev_ rfl)) fun a hS => ?_
    obtain ⟨x4, h5, h3⟩ := bindO h3
    refine wl_cut 3 (fun a w => Slots 13 [] a [(0, Value.int .u8 (b8 (p1))), (2, Value.int .i64 (0)), (8, Value.bool (x4))] ∧ Sat w0 w K (L)) ?_ ?_
    ·
      skip
      rcases ifB h5 with ⟨hc6, h5⟩ | ⟨hc6, h5⟩
      ·
        replace hS := hS.known (k := 5) rfl hc6
        refine st_want hS rfl rfl rfl rfl rfl (by decide) (r_move rfl (hS.ev_ rfl)) fun a hS => ?_
        refine st_want hS rfl rfl rfl rfl rfl (by decide) (r_cmp8 rfl (hS.ev_ rfl) (hS.ev_ (v := Value.int .u8 (b8 (70))) rfl) rfl) fun a hS => ?_
        refine st_val hS rfl rfl (by decide) (r_pick_true rfl (hS.ev_ rfl) rfl (hS.ev_ rfl)) fun a hS => ?_
        refine st_done ?_
        replace hS : Slots 13 [] a [(8, Value.bool (decide (p1 ≤ 70))), (2, Value.int .i64 (0)), (0, Value.int .u8 (b8 (p1)))] := (hS.part (.cons rfl (.cons rfl (.cons rfl (.nil _)))))
        refine x_then ?_
        obtain rfl := Option.some.inj h5
        exact ⟨(hS.part (.cons rfl (.cons rfl (.cons rfl (.nil _))))), hM⟩
      ·
        replace hS := hS.known (k := 5) rfl hc6
        refine st_off hS rfl rfl rfl rfl rfl rfl (by decide) fun a hS => ?_
        refine st_off hS rfl rfl rfl rfl rfl rfl (by decide) fun a hS => ?_
        refine st_val hS rfl rfl (by decide) (r_pick_false rfl (hS.ev_ rfl) rfl (hS.ev_ rfl)) fun a hS => ?_
        refine st_done ?_
        replace hS : Slots 13 [] a [(8, Value.bool (false)), (2, Value.int .i64 (0)), (0, Value.int .u8 (b8 (p1)))] := (hS.part (.cons rfl (.cons rfl (.cons rfl (.nil _)))))
        refine x_then ?_
        obtain rfl := Option.some.inj h5
        exact ⟨(hS.part (.cons rfl (.cons rfl (.cons rfl (.nil _))))), hM⟩
    · rintro a w ⟨hS, hM⟩
      refine st_done ?_
      replace hS : Slots 13 [] a [(0, Value.int .u8 (b8 (p1))), (2, Value.int .i64 (0)), (8, Value.bool (x4))] := (hS.part (.cons rfl (.cons rfl (.cons rfl (.nil _)))))
      refine x_then ?_
      rcases ifB h3 with ⟨hc7, h3⟩ | ⟨hc7, h3⟩
      · refine c_cond_true (hS.ev_ rfl) hc7 ?_
        refine wp_region_lit ?_
        refine st_val hS rfl rfl (by decide) (r_move rfl (hS.ev_ rfl)) fun a hS => ?_
        refine st_val hS rfl rfl (by decide) (r_add8 rfl (hS.ev_ rfl) (hS.ev_ (v := Value.int .u8 (b8 (32))) rfl)) fun a hS => ?_
        refine st_val hS rfl rfl (by decide) (r_assign rfl (hS.ev_ rfl)) fun a hS => ?_
        refine st_done ?_
        replace hS : Slots 13 [] a [(0, Value.int .u8 (b8 (p1 + 32))), (2, Value.int .i64 (0))] := (hS.part (.cons rfl (.cons rfl (.nil _))))
        refine x_then ?_
        obtain rfl := Option.some.inj h3
        exact ⟨(hS.part (.cons rfl (.cons rfl (.nil _)))), hM⟩
      · refine c_cond_false (hS.ev_ rfl) hc7 ?_
        refine wp_skip ?_
        refine x_then ?_
        obtain rfl := Option.some.inj h3
        exact ⟨(hS.part (.cons rfl (.cons rfl (.nil _)))), hM⟩
  · rintro a w ⟨hS, hM⟩
    refine wp_seq ?_
    refine wp_region_lit ?_
    refine st_val hS rfl rfl (by decide) (r_move rfl (hS.ev_ rfl)) fun a hS => ?_
    obtain ⟨y8, h9, h⟩ := bindO h
    have hc11 := strings_IndexByte_c hG h9 hM
    refine wl_cons rfl (e_call rfl Tryd.func54 rfl rfl (args2 (hS.ev_ (v := strV (([48, 49, 50, 51, 52, 53, 54, 55, 56, 57, 97, 98, 99, 100, 101, 102] : List UInt8))) rfl) (hS.ev_ rfl)) hc11 ?_)
    rintro _ w ⟨K10, hlK10, hM, rfl⟩
    refine ⟨_, rfl, ?_⟩
    refine pl hS rfl (by decide) fun a hS => ?_
    refine st_val hS rfl rfl (by decide) (r_assign rfl (hS.ev_ rfl)) fun a hS => ?_
    refine st_done ?_
    replace hS : Slots 13 [] a [(2, Value.int .i64 (y8))] := (hS.part (.cons rfl (.nil _)))
    refine x_then ?_
    refine wp_ret ?_
    have hr' := Option.some.inj h
    subst hr'
    refine ret1 (.inr rfl) hS rfl rfl ?_
    exact ⟨K10, hlK10, hM, rfl⟩

theorem W_reader_coded_c {w0 w : World} {K : Hp} {L : List SP} {p1 : W_reader} {g2 : Nat} {r : UInt8 × (Option Nat) × W_reader} (hG : Glob w0) (h : W_reader_coded p1 = some r) (hM : Sat w0 w K (SP.blk g2 62 [strV (p1.f_s), Value.int .i64 (p1.f_at)] :: L)) :
    Calls Tryd.prog 52 #[Value.pointer (some ⟨g2, 0, none⟩)] w (fun e w' => ∃ (K' : Hp), Hp.le K K' ∧ Sat w0 w' K' (SP.blk g2 62 [strV (r.2.2.f_s), Value.int .i64 (r.2.2.f_at)] :: L) ∧ e = .returned (Value.tuple #[Value.int .u8 (b8 (r.1)), eV w0 r.2.1])) := by
  refine enter_ (n := 38) (args := [Value.pointer (some ⟨g2, 0, none⟩)]) Tryd.func52 rfl rfl (Nat.le_of_ble_eq_true rfl) fun a hS => ?_
  replace hS : Slots 38 [] a [(0, Value.pointer (some ⟨g2, 0, none⟩))] := hS
  unfold W_reader_coded at h
  refine wp_seq ?_
  refine wp_region_lit ?_
  refine st_val hS rfl rfl (by decide) (r_assign rfl (hS.ev_ (v := Value.int .u8 (b8 (0))) rfl)) fun a hS => ?_
  refine st_val hS rfl rfl (by decide) (r_assign rfl (hS.ev_ rfl)) fun a hS => ?_
  refine st_done ?_
  replace hS : Slots 38 [] a [(3, eV w0 ((none : Option Nat))), (2, Value.int .u8 (b8 (0))), (0, Value.pointer (some ⟨g2, 0, none⟩))] := (hS.part (.cons rfl (.cons rfl (.cons rfl (.nil _)))))
  refine x_then ?_
  refine wp_seq ?_
  refine wp_region_lit ?_
  refine st_val hS rfl rfl (by decide) (r_assign rfl (hS.ev_ rfl)) fun a hS => ?_
  refine st_done ?_
  replace hS : Slots 38 [] a [(4, Value.int .i64 (0)), (3, eV w0 ((none : Option Nat))), (2, Value.int .u8 (b8 (0))), (0, Value.pointer (some ⟨g2, 0, none⟩))] := (hS.part (.cons rfl (.cons rfl (.cons rfl (.cons rfl (.nil _))))))
  refine x_then ?_
  refine wp_seq ?_
  refine wp_seq ?_
  refine wp_region_lit ?_
  refine st_val hS rfl rfl (by decide) (r_move rfl (hS.ev_ rfl)) fun a hS => ?_
  refine st_done ?_
  replace hS : Slots 38 [] a [(6, Value.int .i64 (0)), (4, Value.int .i64 (0)), (3, eV w0 ((none : Option Nat))), (2, Value.int .u8 (b8 (0))), (0, Value.pointer (some ⟨g2, 0, none⟩))] := (hS.part (.cons rfl (.cons rfl (.cons rfl (.cons rfl (.cons rfl (.nil _)))))))
  refine x_then ?_
  refine wp_block ?_
  obtain ⟨o14, h15, h⟩ := bindO h
  refine c_loop_ways (fun e a w => (e = .exit 0 ∧ ∃ (K16 : Hp) (x17 : Int × (List UInt8) × Int), Hp.le K K16 ∧ o14 = Sum.inl x17 ∧ Slots 38 [] a [(2, Value.int .u8 (b8 (0))), (3, eV w0 ((none : Option Nat))), (4, Value.int .i64 (x17.1))] ∧ Sat w0 w K16 (SP.blk g2 62 [strV (x17.2.1), Value.int .i64 (x17.2.2)] :: L)) ∨ (e = .ret ∧ ∃ (K18 : Hp) (x19 : (Option Nat) × (List UInt8) × Int), Hp.le K K18 ∧ o14 = Sum.inr x19 ∧ Slots 38 [] a [(2, Value.int .u8 (b8 (0))), (3, eV w0 x19.1)] ∧ Sat w0 w K18 (SP.blk g2 62 [strV (x19.2.1), Value.int .i64 (x19.2.2)] :: L))) ?_ ?_
  · intro c Q hc hQ
    have key : ∀ (x10 : Int) (x11 : Int) (x12 : List UInt8) (x13 : Int) (r' : Sum (Int × (List UInt8) × Int) ((Option Nat) × (List UInt8) × Int)), W_reader_coded_l1 x10 x11 x12 x13 = some r' → r' = o14 → ∀ (K9 : Hp) (a : Act) (w : World), Hp.le K K9 → Slots 38 [] a [(6, Value.int .i64 (x10)), (4, Value.int .i64 (x11)), (3, eV w0 ((none : Option Nat))), (2, Value.int .u8 (b8 (0))), (0, Value.pointer (some ⟨g2, 0, none⟩))] → Sat w0 w K9 (SP.blk g2 62 [strV (x12), Value.int .i64 (x13)] :: L) → Rnd Tryd.prog c Q a w := by
      refine W_reader_coded_l1.partial_correctness _ ?_
      intro W_reader_coded_l1_rec ih x10 x11 x12 x13 r' h hr K9  a w hlK9 hS hM 
      subst hc
      refine c_round ?_
      refine wp_seq ?_
      refine wp_region_lit ?_
      refine st_val hS rfl rfl (by decide) (r_cmp rfl (hS.ev_ rfl) (hS.ev_ rfl) rfl) fun a hS => ?_
      refine st_done ?_
      replace hS : Slots 38 [] a [(7, Value.bool (decide (x10 < 2))), (6, Value.int .i64 (x10)), (4, Value.int .i64 (x11)), (3, eV w0 ((none : Option Nat))), (2, Value.int .u8 (b8 (0))), (0, Value.pointer (some ⟨g2, 0, none⟩))] := (hS.part (.cons rfl (.cons rfl (.cons rfl (.cons rfl (.cons rfl (.cons rfl (.nil _))))))))
      refine x_then ?_
      refine wp_seq ?_
      rcases ifB h with ⟨hc20, h⟩ | ⟨hc20, h⟩
      · refine c_cond_true (hS.ev_ rfl) hc20 ?_
        refine wp_skip ?_
        refine x_then ?_
        refine wp_seq ?_
        refine wp_block ?_
        refine wp_seq ?_
        refine wp_seq ?_
        refine wp_region_lit ?_
        refine st_val hS rfl rfl (by decide) (r_move rfl (hS.ev_ rfl)) fun a hS => ?_
        obtain ⟨y21, h22, h⟩ := bindO h
        have hc24 := W_reader_ends_c hG h22 hM
        refine wl_cons rfl (e_call rfl Tryd.func29 rfl rfl (args1 (hS.ev_ rfl)) hc24 ?_)
        rintro _ w ⟨K23, hlK23, hM, rfl⟩
        refine ⟨_, rfl, ?_⟩
        refine pl hS rfl (by decide) fun a hS => ?_
        refine st_done ?_
        replace hS : Slots 38 [] a [(9, Value.bool (y21.1)), (6, Value.int .i64 (x10)), (4, Value.int .i64 (x11)), (3, eV w0 ((none : Option Nat))), (2, Value.int .u8 (b8 (0))), (0, Value.pointer (some ⟨g2, 0, none⟩))] := (hS.part (.cons rfl (.cons rfl (.cons rfl (.cons rfl (.cons rfl (.cons rfl (.nil _))))))))
        refine x_then ?_
        rcases ifB h with ⟨hc25, h⟩ | ⟨hc25, h⟩
        · refine c_cond_true (hS.ev_ rfl) hc25 ?_
          refine wp_seq ?_
          refine tk_start #[false, false, false] mixed_ rfl rfl ?_
          replace hM := hM.drew
          generalize w.drew = w at hM ⊢
          refine dk_val (i := 0) (S := Rd w0 K23 []) #[true, false, false] hS rfl (by kernel_rfl) rfl rfl (by decide) (Rd.up (Hp.le.refl _) hM.nil_) (fun w hR => r_ldG rfl ag_41 (hS.ev_ rfl) (hG 2 (by decide)) hR) fun a hS => ?_
          refine dk_any (i := 1) #[true, true, false] hS rfl (by kernel_rfl) rfl rfl (by decide) (fun w => r_assign rfl (hS.ev_ (v := Value.int .u8 (b8 (0))) rfl)) fun a hS => ?_
          refine dk_any (i := 2) #[true, true, true] hS rfl (by kernel_rfl) rfl rfl (by decide) (fun w => r_assign rfl (hS.ev_ rfl)) fun a hS => ?_
          refine tk_done (by kernel_rfl) ?_
          replace hS : Slots 38 [] a [(3, eV w0 ((some 2 : Option Nat))), (2, Value.int .u8 (b8 (0))), (6, Value.int .i64 (x10)), (4, Value.int .i64 (x11)), (0, Value.pointer (some ⟨g2, 0, none⟩))] := (hS.part (.cons rfl (.cons rfl (.cons rfl (.cons rfl (.cons rfl (.nil _)))))))
          refine x_then ?_
          refine wp_ret ?_
          refine x_then_ret ?_
          refine x_block_ret ?_
          refine x_then_ret ?_
          refine x_then_ret ?_
          have ho' := (Option.some.inj h).trans hr
          refine hQ _ _ _ ?_
          exact .inr (⟨rfl, K23, (((some 2 : Option Nat), y21.2.f_s, y21.2.f_at)), (hlK9.trans hlK23), ho'.symm, (hS.part (.cons rfl (.cons rfl (.nil _)))), hM⟩)
        · refine c_cond_false (hS.ev_ rfl) hc25 ?_
          refine wp_skip ?_
          refine x_then ?_
          refine wp_seq ?_
          refine tk_start #[false, false, false, false, false, false, false, false, false, false, false] mixed_ rfl rfl ?_
          replace hM := hM.drew
          generalize w.drew = w at hM ⊢
          refine dk_any (i := 0) #[true, false, false, false, false, false, false, false, false, false, false] hS rfl (by kernel_rfl) rfl rfl (by decide) (fun w => r_move rfl (hS.ev_ rfl)) fun a hS => ?_
          refine dk_any (i := 1) #[true, true, false, false, false, false, false, false, false, false, false] hS rfl (by kernel_rfl) rfl rfl (by decide) (fun w => r_nilCheck rfl (hS.ev_ rfl)) fun a hS => ?_
          refine dk_any (i := 2) #[true, true, true, false, false, false, false, false, false, false, false] hS rfl (by kernel_rfl) rfl rfl (by decide) (fun w => r_fld_b rfl fo_62_0 (hS.ev_ rfl)) fun a hS => ?_
          refine dk_val (i := 3) (S := Rd w0 K23 [SP.blk g2 62 [strV (y21.2.f_s), Value.int .i64 (y21.2.f_at)]]) #[true, true, true, true, false, false, false, false, false, false, false] hS rfl (by kernel_rfl) rfl rfl (by decide) (Rd.of hM.only) (fun w hR => r_ld1_b rfl ag_9 (hS.ev_ rfl) rfl hR) fun a hS => ?_
          refine dk_any (i := 4) #[true, true, true, true, true, false, false, false, false, false, false] hS rfl (by kernel_rfl) rfl rfl (by decide) (fun w => r_move rfl (hS.ev_ rfl)) fun a hS => ?_
          refine dk_any (i := 5) #[true, true, true, true, true, true, false, false, false, false, false] hS rfl (by kernel_rfl) rfl rfl (by decide) (fun w => r_nilCheck rfl (hS.ev_ rfl)) fun a hS => ?_
          refine dk_any (i := 6) #[true, true, true, true, true, true, true, false, false, false, false] hS rfl (by kernel_rfl) rfl rfl (by decide) (fun w => r_fld_b rfl fo_62_1 (hS.ev_ rfl)) fun a hS => ?_
          refine dk_val (i := 7) (S := Rd w0 K23 [SP.blk g2 62 [strV (y21.2.f_s), Value.int .i64 (y21.2.f_at)]]) #[true, true, true, true, true, true, true, true, false, false, false] hS rfl (by kernel_rfl) rfl rfl (by decide) (Rd.of hM.only) (fun w hR => r_ld1_b rfl ag_3 (hS.ev_ rfl) rfl hR) fun a hS => ?_
          obtain ⟨c26, h27, h⟩ := bindO h
          refine dk_any (i := 8) #[true, true, true, true, true, true, true, true, true, false, false] hS rfl (by kernel_rfl) rfl rfl (by decide) (fun w => r_index_s rfl un_9 (hS.ev_ rfl) (hS.ev_ rfl) h27) fun a hS => ?_
          obtain ⟨y28, h29, h⟩ := bindO h
          have hc31 := W_digit_c hG h29 hM
          refine dk_one (i := 9) #[true, true, true, true, true, true, true, true, true, true, false] rfl (by kernel_rfl) rfl (e_call rfl Tryd.func53 rfl rfl (args1 (hS.ev_ rfl)) hc31 ?_)
          rintro _ w ⟨K30, hlK30, hM, rfl⟩
          refine ⟨_, rfl, ?_⟩
          refine pT hS rfl (by decide) (Dem.wait (by kernel_rfl) (Dem.wait (by kernel_rfl) Dem.nil)) fun a hS => ?_
          refine dk_any (i := 10) #[true, true, true, true, true, true, true, true, true, true, true] hS rfl (by kernel_rfl) rfl rfl (by decide) (fun w => r_assign rfl (hS.ev_ rfl)) fun a hS => ?_
          refine tk_done (by kernel_rfl) ?_
          replace hS : Slots 38 [] a [(5, Value.int .i64 (y28)), (6, Value.int .i64 (x10)), (4, Value.int .i64 (x11)), (3, eV w0 ((none : Option Nat))), (2, Value.int .u8 (b8 (0))), (0, Value.pointer (some ⟨g2, 0, none⟩))] := (hS.part (.cons rfl (.cons rfl (.cons rfl (.cons rfl (.cons rfl (.cons rfl (.nil _))))))))
          refine x_then ?_
          refine wp_seq ?_
          refine wp_seq ?_
          refine wp_region_lit ?_
          refine st_val hS rfl rfl (by decide) (r_move rfl (hS.ev_ rfl)) fun a hS => ?_
          refine st_val hS rfl rfl (by decide) (r_cmp rfl (hS.ev_ rfl) (hS.ev_ rfl) rfl) fun a hS => ?_
          refine st_done ?_
          replace hS : Slots 38 [] a [(22, Value.bool (decide (y28 < 0))), (5, Value.int .i64 (y28)), (6, Value.int .i64 (x10)), (4, Value.int .i64 (x11)), (3, eV w0 ((none : Option Nat))), (2, Value.int .u8 (b8 (0))), (0, Value.pointer (some ⟨g2, 0, none⟩))] := (hS.part (.cons rfl (.cons rfl (.cons rfl (.cons rfl (.cons rfl (.cons rfl (.cons rfl (.nil _)))))))))
          refine x_then ?_
          rcases ifB h with ⟨hc32, h⟩ | ⟨hc32, h⟩
          · refine c_cond_true (hS.ev_ rfl) hc32 ?_
            refine wp_seq ?_
            refine tk_start #[false, false, false] mixed_ rfl rfl ?_
            replace hM := hM.drew
            generalize w.drew = w at hM ⊢
            refine dk_val (i := 0) (S := Rd w0 K30 []) #[true, false, false] hS rfl (by kernel_rfl) rfl rfl (by decide) (Rd.up (Hp.le.refl _) hM.nil_) (fun w hR => r_ldG rfl ag_41 (hS.ev_ rfl) (hG 1 (by decide)) hR) fun a hS => ?_
            refine dk_any (i := 1) #[true, true, false] hS rfl (by kernel_rfl) rfl rfl (by decide) (fun w => r_assign rfl (hS.ev_ (v := Value.int .u8 (b8 (0))) rfl)) fun a hS => ?_
            refine dk_any (i := 2) #[true, true, true] hS rfl (by kernel_rfl) rfl rfl (by decide) (fun w => r_assign rfl (hS.ev_ rfl)) fun a hS => ?_
            refine tk_done (by kernel_rfl) ?_
            replace hS : Slots 38 [] a [(3, eV w0 ((some 1 : Option Nat))), (2, Value.int .u8 (b8 (0))), (5, Value.int .i64 (y28)), (6, Value.int .i64 (x10)), (4, Value.int .i64 (x11)), (0, Value.pointer (some ⟨g2, 0, none⟩))] := (hS.part (.cons rfl (.cons rfl (.cons rfl (.cons rfl (.cons rfl (.cons rfl (.nil _))))))))
            refine x_then ?_
            refine wp_ret ?_
            refine x_then_ret ?_
            refine x_block_ret ?_
            refine x_then_ret ?_
            refine x_then_ret ?_
            have ho' := (Option.some.inj h).trans hr
            refine hQ _ _ _ ?_
            exact .inr (⟨rfl, K30, (((some 1 : Option Nat), y21.2.f_s, y21.2.f_at)), ((hlK9.trans hlK23).trans hlK30), ho'.symm, (hS.part (.cons rfl (.cons rfl (.nil _)))), hM⟩)
          · refine c_cond_false (hS.ev_ rfl) hc32 ?_
            refine wp_skip ?_
            refine x_then ?_
            refine wp_seq ?_
            refine wp_region_lit ?_
            refine st_val hS rfl rfl (by decide) (r_move rfl (hS.ev_ rfl)) fun a hS => ?_
            refine st_val hS rfl rfl (by decide) (r_shl (n := 4) rfl (hS.ev_ rfl) (hS.ev_ (v := Value.int .u64 ((4 : Nat) : Int)) rfl) (by decide)) fun a hS => ?_
            refine st_val hS rfl rfl (by decide) (r_move rfl (hS.ev_ rfl)) fun a hS => ?_
            refine st_val hS rfl rfl (by decide) (r_or64 rfl (hS.ev_ rfl) (hS.ev_ rfl)) fun a hS => ?_
            refine st_val hS rfl rfl (by decide) (r_assign rfl (hS.ev_ rfl)) fun a hS => ?_
            refine st_done ?_
            replace hS : Slots 38 [] a [(4, Value.int .i64 (or64 (w64 (x11 * 2 ^ 4)) y28)), (6, Value.int .i64 (x10)), (3, eV w0 ((none : Option Nat))), (2, Value.int .u8 (b8 (0))), (0, Value.pointer (some ⟨g2, 0, none⟩))] := (hS.part (.cons rfl (.cons rfl (.cons rfl (.cons rfl (.cons rfl (.nil _)))))))
            refine x_then ?_
            refine wp_region_lit ?_
            refine st_val hS rfl rfl (by decide) (r_move rfl (hS.ev_ rfl)) fun a hS => ?_
            refine st_val hS rfl rfl (by decide) (r_nilCheck rfl (hS.ev_ rfl)) fun a hS => ?_
            refine st_val hS rfl rfl (by decide) (r_fld_b rfl fo_62_1 (hS.ev_ rfl)) fun a hS => ?_
            refine st_val hS rfl rfl (by decide) (r_ld1_b rfl ag_3 (hS.ev_ rfl) rfl (Rd.of hM)) fun a hS => ?_
            refine st_val hS rfl rfl (by decide) (r_add rfl (hS.ev_ rfl) (hS.ev_ rfl)) fun a hS => ?_
            refine st_val hS rfl rfl (by decide) (r_nilCheck rfl (hS.ev_ rfl)) fun a hS => ?_
            refine st_val hS rfl rfl (by decide) (r_fld_b rfl fo_62_1 (hS.ev_ rfl)) fun a hS => ?_
            refine wl_cons rfl (e_store1 hM rfl ti_3 (hS.ev_ rfl) (hS.ev_ rfl) rfl (Nat.lt_of_lt_of_le (Nat.le_of_ble_eq_true rfl) (Nat.le_refl _)) fun w hM => ?_)
            have hM : Sat w0 w K30 (SP.blk g2 62 [strV (y21.2.f_s), Value.int .i64 (w64 (y21.2.f_at + 1))] :: L) := hM
            refine pl0 hS rfl fun a hS => ?_
            refine st_done ?_
            replace hS : Slots 38 [] a [(4, Value.int .i64 (or64 (w64 (x11 * 2 ^ 4)) y28)), (6, Value.int .i64 (x10)), (3, eV w0 ((none : Option Nat))), (2, Value.int .u8 (b8 (0))), (0, Value.pointer (some ⟨g2, 0, none⟩))] := (hS.part (.cons rfl (.cons rfl (.cons rfl (.cons rfl (.cons rfl (.nil _)))))))
            refine x_block ?_
            refine x_then ?_
            refine wp_region_lit ?_
            refine st_val hS rfl rfl (by decide) (r_add rfl (hS.ev_ rfl) (hS.ev_ rfl)) fun a hS => ?_
            refine st_val hS rfl rfl (by decide) (r_move rfl (hS.ev_ rfl)) fun a hS => ?_
            refine st_done ?_
            replace hS : Slots 38 [] a [(6, Value.int .i64 (w64 (x10 + 1))), (4, Value.int .i64 (or64 (w64 (x11 * 2 ^ 4)) y28)), (3, eV w0 ((none : Option Nat))), (2, Value.int .u8 (b8 (0))), (0, Value.pointer (some ⟨g2, 0, none⟩))] := (hS.part (.cons rfl (.cons rfl (.cons rfl (.cons rfl (.cons rfl (.nil _)))))))
            refine x_then ?_
            exact ih (w64 (x10 + 1)) (or64 (w64 (x11 * 2 ^ 4)) y28) y21.2.f_s (w64 (y21.2.f_at + 1)) _ h hr K30 _ _ ((hlK9.trans hlK23).trans hlK30) (hS.part (.cons rfl (.cons rfl (.cons rfl (.cons rfl (.cons rfl (.nil _))))))) (hM)
      · refine c_cond_false (hS.ev_ rfl) hc20 ?_
        refine wp_exit ?_
        refine x_then_exit ?_
        refine x_then_exit ?_
        have ho' := (Option.some.inj h).trans hr
        refine hQ _ _ _ ?_
        exact .inl ⟨rfl, K9, ((x11, x12, x13)), hlK9, ho'.symm, (hS.part (.cons rfl (.cons rfl (.cons rfl (.nil _))))), hM⟩
    exact key 0 0 p1.f_s p1.f_at _ h15 rfl K _ _ (Hp.le.refl _) (hS.part (.cons rfl (.cons rfl (.cons rfl (.cons rfl (.cons rfl (.nil _))))))) (hM)
  · rintro e a w (⟨rfl, K16, x17, hlK16, ho', hS, hM⟩ | ⟨rfl, K18, x19, hlK18, ho', hS, hM⟩)
    · subst ho'
      dsimp only at h
      refine x_block_here ?_
      refine x_then ?_
      refine wp_seq ?_
      refine wp_region_lit ?_
      refine st_val hS rfl rfl (by decide) (r_move rfl (hS.ev_ rfl)) fun a hS => ?_
      refine st_val hS rfl rfl (by decide) (r_conv_i8 rfl un_3 un_5 (hS.ev_ rfl)) fun a hS => ?_
      refine st_val hS rfl rfl (by decide) (r_assign rfl (hS.ev_ rfl)) fun a hS => ?_
      refine st_val hS rfl rfl (by decide) (r_assign rfl (hS.ev_ rfl)) fun a hS => ?_
      refine st_done ?_
      replace hS : Slots 38 [] a [(3, eV w0 ((none : Option Nat))), (2, Value.int .u8 (b8 (toB x17.1)))] := (hS.part (.cons rfl (.cons rfl (.nil _))))
      refine x_then ?_
      refine wp_ret ?_
      have hr' := Option.some.inj h
      subst hr'
      refine ret2 (.inr rfl) hS rfl rfl rfl ?_
      exact ⟨K16, hlK16, hM, rfl⟩
    · subst ho'
      dsimp only at h
      refine x_block_ret ?_
      refine x_then_ret ?_
      have hr' := Option.some.inj h
      subst hr'
      refine ret2 (.inr rfl) hS rfl rfl rfl ?_
      exact ⟨K18, hlK18, hM, rfl⟩

theorem W_reader_escape_c {w0 w : World} {K : Hp} {L : List SP} {p1 : W_reader} {g2 : Nat} {r : UInt8 × (Option Nat) × W_reader} (hG : Glob w0) (h : W_reader_escape p1 = some r) (hM : Sat w0 w K (SP.blk g2 62 [strV (p1.f_s), Value.int .i64 (p1.f_at)] :: L)) :
    Calls Tryd.prog 49 #[Value.pointer (some ⟨g2, 0, none⟩)] w (fun e w' => ∃ (K' : Hp), Hp.le K K' ∧ Sat w0 w' K' (SP.blk g2 62 [strV (r.2.2.f_s), Value.int .i64 (r.2.2.f_at)] :: L) ∧ e = .returned (Value.tuple #[Value.int .u8 (b8 (r.1)), eV w0 r.2.1])) := by
  refine enter_ (n := 43) (args := [Value.pointer (some ⟨g2, 0, none⟩)]) Tryd.func49 rfl rfl (Nat.le_of_ble_eq_true rfl) fun a hS => ?_
  replace hS : Slots 43 [] a [(0, Value.pointer (some ⟨g2, 0, none⟩))] := hS
  unfold W_reader_escape at h
  refine wp_seq ?_
  refine wp_region_lit ?_
  refine st_val hS rfl rfl (by decide) (r_assign rfl (hS.ev_ (v := Value.int .u8 (b8 (0))) rfl)) fun a hS => ?_
  refine st_val hS rfl rfl (by decide) (r_assign rfl (hS.ev_ rfl)) fun a hS => ?_
  refine st_done ?_
  replace hS : Slots 43 [] a [(3, eV w0 ((none : Option Nat))), (2, Value.int .u8 (b8 (0))), (0, Value.pointer (some ⟨g2, 0, none⟩))] := (hS.part (.cons rfl (.cons rfl (.cons rfl (.nil _)))))
  refine x_then ?_
  refine wp_seq ?_
  refine wp_seq ?_
  refine wp_region_lit ?_
  refine st_val hS rfl rfl (by decide) (r_move rfl (hS.ev_ rfl)) fun a hS => ?_
  obtain ⟨y3, h4, h⟩ := bindO h
  have hc6 := W_reader_ends_c hG h4 hM
  refine wl_cons rfl (e_call rfl Tryd.func29 rfl rfl (args1 (hS.ev_ rfl)) hc6 ?_)
  rintro _ w ⟨K5, hlK5, hM, rfl⟩
  refine ⟨_, rfl, ?_⟩
  refine pl hS rfl (by decide) fun a hS => ?_
  refine st_done ?_
  replace hS : Slots 43 [] a [(6, Value.bool (y3.1)), (3, eV w0 ((none : Option Nat))), (2, Value.int .u8 (b8 (0))), (0, Value.pointer (some ⟨g2, 0, none⟩))] := (hS.part (.cons rfl (.cons rfl (.cons rfl (.cons rfl (.nil _))))))
  refine x_then ?_
  rcases ifB h with ⟨hc7, h⟩ | ⟨hc7, h⟩
  · refine c_cond_true (hS.ev_ rfl) hc7 ?_
    refine wp_seq ?_
    refine tk_start #[false, false, false] mixed_ rfl rfl ?_
    replace hM := hM.drew
    generalize w.drew = w at hM ⊢
    refine dk_val (i := 0) (S := Rd w0 K5 []) #[true, false, false] hS rfl (by kernel_rfl) rfl rfl (by decide) (Rd.up (Hp.le.refl _) hM.nil_) (fun w hR => r_ldG rfl ag_41 (hS.ev_ rfl) (hG 2 (by decide)) hR) fun a hS => ?_
    refine dk_any (i := 1) #[true, true, false] hS rfl (by kernel_rfl) rfl rfl (by decide) (fun w => r_assign rfl (hS.ev_ (v := Value.int .u8 (b8 (0))) rfl)) fun a hS => ?_
    refine dk_any (i := 2) #[true, true, true] hS rfl (by kernel_rfl) rfl rfl (by decide) (fun w => r_assign rfl (hS.ev_ rfl)) fun a hS => ?_
    refine tk_done (by kernel_rfl) ?_
    replace hS : Slots 43 [] a [(3, eV w0 ((some 2 : Option Nat))), (2, Value.int .u8 (b8 (0))), (0, Value.pointer (some ⟨g2, 0, none⟩))] := (hS.part (.cons rfl (.cons rfl (.cons rfl (.nil _)))))
    refine x_then ?_
    refine wp_ret ?_
    refine x_then_ret ?_
    have hr' := Option.some.inj h
    subst hr'
    refine ret2 (.inr rfl) hS rfl rfl rfl ?_
    exact ⟨K5, hlK5, hM, rfl⟩
  · refine c_cond_false (hS.ev_ rfl) hc7 ?_
    refine wp_skip ?_
    refine x_then ?_
    refine wp_seq ?_
    refine tk_start #[false, false, false, false, false, false, false, false, false, false] mixed_ rfl rfl ?_
    replace hM := hM.drew
    generalize w.drew = w at hM ⊢
    refine dk_any (i := 0) #[true, false, false, false, false, false, false, false, false, false] hS rfl (by kernel_rfl) rfl rfl (by decide) (fun w => r_move rfl (hS.ev_ rfl)) fun a hS => ?_
    refine dk_any (i := 1) #[true, true, false, false, false, false, false, false, false, false] hS rfl (by kernel_rfl) rfl rfl (by decide) (fun w => r_nilCheck rfl (hS.ev_ rfl)) fun a hS => ?_
    refine dk_any (i := 2) #[true, true, true, false, false, false, false, false, false, false] hS rfl (by kernel_rfl) rfl rfl (by decide) (fun w => r_fld_b rfl fo_62_0 (hS.ev_ rfl)) fun a hS => ?_
    refine dk_val (i := 3) (S := Rd w0 K5 [SP.blk g2 62 [strV (y3.2.f_s), Value.int .i64 (y3.2.f_at)]]) #[true, true, true, true, false, false, false, false, false, false] hS rfl (by kernel_rfl) rfl rfl (by decide) (Rd.of hM.only) (fun w hR => r_ld1_b rfl ag_9 (hS.ev_ rfl) rfl hR) fun a hS => ?_
    refine dk_any (i := 4) #[true, true, true, true, true, false, false, false, false, false] hS rfl (by kernel_rfl) rfl rfl (by decide) (fun w => r_move rfl (hS.ev_ rfl)) fun a hS => ?_
    refine dk_any (i := 5) #[true, true, true, true, true, true, false, false, false, false] hS rfl (by kernel_rfl) rfl rfl (by decide) (fun w => r_nilCheck rfl (hS.ev_ rfl)) fun a hS => ?_
    refine dk_any (i := 6) #[true, true, true, true, true, true, true, false, false, false] hS rfl (by kernel_rfl) rfl rfl (by decide) (fun w => r_fld_b rfl fo_62_1 (hS.ev_ rfl)) fun a hS => ?_
    refine dk_val (i := 7) (S := Rd w0 K5 [SP.blk g2 62 [strV (y3.2.f_s), Value.int .i64 (y3.2.f_at)]]) #[true, true, true, true, true, true, true, true, false, false] hS rfl (by kernel_rfl) rfl rfl (by decide) (Rd.of hM.only) (fun w hR => r_ld1_b rfl ag_3 (hS.ev_ rfl) rfl hR) fun a hS => ?_
    obtain ⟨c8, h9, h⟩ := bindO h
    refine dk_any (i := 8) #[true, true, true, true, true, true, true, true, true, false] hS rfl (by kernel_rfl) rfl rfl (by decide) (fun w => r_index_s rfl un_9 (hS.ev_ rfl) (hS.ev_ rfl) h9) fun a hS => ?_
    refine dk_any (i := 9) #[true, true, true, true, true, true, true, true, true, true] hS rfl (by kernel_rfl) rfl rfl (by decide) (fun w => r_assign rfl (hS.ev_ rfl)) fun a hS => ?_
    refine tk_done (by kernel_rfl) ?_
    replace hS : Slots 43 [] a [(4, Value.int .u8 (b8 (c8))), (3, eV w0 ((none : Option Nat))), (2, Value.int .u8 (b8 (0))), (0, Value.pointer (some ⟨g2, 0, none⟩))] := (hS.part (.cons rfl (.cons rfl (.cons rfl (.cons rfl (.nil _))))))
    refine x_then ?_
    refine wp_seq ?_
    refine wp_region_lit ?_
    refine st_val hS rfl rfl (by decide) (r_move rfl (hS.ev_ rfl)) fun a hS => ?_
    refine st_val hS rfl rfl (by decide) (r_nilCheck rfl (hS.ev_ rfl)) fun a hS => ?_
    refine st_val hS rfl rfl (by decide) (r_fld_b rfl fo_62_1 (hS.ev_ rfl)) fun a hS => ?_
    refine st_val hS rfl rfl (by decide) (r_ld1_b rfl ag_3 (hS.ev_ rfl) rfl (Rd.of hM)) fun a hS => ?_
    refine st_val hS rfl rfl (by decide) (r_add rfl (hS.ev_ rfl) (hS.ev_ rfl)) fun a hS => ?_
    refine st_val hS rfl rfl (by decide) (r_nilCheck rfl (hS.ev_ rfl)) fun a hS => ?_
    refine st_val hS rfl rfl (by decide) (r_fld_b rfl fo_62_1 (hS.ev_ rfl)) fun a hS => ?_
    refine wl_cons rfl (e_store1 hM rfl ti_3 (hS.ev_ rfl) (hS.ev_ rfl) rfl (Nat.lt_of_lt_of_le (Nat.le_of_ble_eq_true rfl) (Nat.le_refl _)) fun w hM => ?_)
    have hM : Sat w0 w K5 (SP.blk g2 62 [strV (y3.2.f_s), Value.int .i64 (w64 (y3.2.f_at + 1))] :: L) := hM
    refine pl0 hS rfl fun a hS => ?_
    refine st_done ?_
    replace hS : Slots 43 [] a [(4, Value.int .u8 (b8 (c8))), (3, eV w0 ((none : Option Nat))), (2, Value.int .u8 (b8 (0))), (0, Value.pointer (some ⟨g2, 0, none⟩))] := (hS.part (.cons rfl (.cons rfl (.cons rfl (.cons rfl (.nil _))))))
    refine x_then ?_
    extract_lets k10 at h
    refine c_cut (fun a w => k10 () = some r ∧ Slots 43 [] a [(2, Value.int .u8 (b8 (0))), (3, eV w0 ((none : Option Nat)))] ∧ Sat w0 w K5 (SP.blk g2 62 [strV (y3.2.f_s), Value.int .i64 (w64 (y3.2.f_at + 1))] :: L)) ?_ ?_
    ·
      refine wp_seq ?_
      refine wp_region_lit ?_
      refine st_val hS rfl rfl (by decide) (r_move rfl (hS.ev_ rfl)) fun a hS => ?_
      refine st_done ?_
      replace hS : Slots 43 [] a [(24, Value.int .u8 (b8 (c8))), (4, Value.int .u8 (b8 (c8))), (3, eV w0 ((none : Option Nat))), (2, Value.int .u8 (b8 (0))), (0, Value.pointer (some ⟨g2, 0, none⟩))] := (hS.part (.cons rfl (.cons rfl (.cons rfl (.cons rfl (.cons rfl (.nil _)))))))
      refine x_then ?_
      refine wp_block ?_
      refine wp_seq ?_
      refine wp_region_lit ?_
      refine st_val hS rfl rfl (by decide) (r_cmp8 rfl (hS.ev_ rfl) (hS.ev_ (v := Value.int .u8 (b8 (110))) rfl) rfl) fun a hS => ?_
      refine st_val hS rfl rfl (by decide) (r_assign rfl (hS.ev_ rfl)) fun a hS => ?_
      refine st_done ?_
      replace hS : Slots 43 [] a [(25, Value.bool (c8 == 110)), (24, Value.int .u8 (b8 (c8))), (4, Value.int .u8 (b8 (c8))), (3, eV w0 ((none : Option Nat))), (2, Value.int .u8 (b8 (0))), (0, Value.pointer (some ⟨g2, 0, none⟩))] := (hS.part (.cons rfl (.cons rfl (.cons rfl (.cons rfl (.cons rfl (.cons rfl (.nil _))))))))
      refine x_then ?_
      rcases ifB h with ⟨hc12, h⟩ | ⟨hc12, h⟩
      · refine c_cond_true (hS.ev_ rfl) hc12 ?_
        refine wp_seq ?_
        refine wp_region_lit ?_
        refine st_val hS rfl rfl (by decide) (r_assign rfl (hS.ev_ (v := Value.int .u8 (b8 (10))) rfl)) fun a hS => ?_
        refine st_val hS rfl rfl (by decide) (r_assign rfl (hS.ev_ rfl)) fun a hS => ?_
        refine st_done ?_
        replace hS : Slots 43 [] a [(3, eV w0 ((none : Option Nat))), (2, Value.int .u8 (b8 (10)))] := (hS.part (.cons rfl (.cons rfl (.nil _))))
        refine x_then ?_
        refine wp_ret ?_
        refine x_block_ret ?_
        refine x_then_ret ?_
        have hr' := Option.some.inj h
        subst hr'
        refine ret2 (.inr rfl) hS rfl rfl rfl ?_
        exact ⟨K5, hlK5, hM, rfl⟩
      · refine c_cond_false (hS.ev_ rfl) hc12 ?_
        refine wp_seq ?_
        refine wp_region_lit ?_
        refine st_val hS rfl rfl (by decide) (r_cmp8 rfl (hS.ev_ rfl) (hS.ev_ (v := Value.int .u8 (b8 (114))) rfl) rfl) fun a hS => ?_
        refine st_val hS rfl rfl (by decide) (r_assign rfl (hS.ev_ rfl)) fun a hS => ?_
        refine st_done ?_
        replace hS : Slots 43 [] a [(27, Value.bool (c8 == 114)), (24, Value.int .u8 (b8 (c8))), (4, Value.int .u8 (b8 (c8))), (3, eV w0 ((none : Option Nat))), (2, Value.int .u8 (b8 (0))), (0, Value.pointer (some ⟨g2, 0, none⟩))] := (hS.part (.cons rfl (.cons rfl (.cons rfl (.cons rfl (.cons rfl (.cons rfl (.nil _))))))))
        refine x_then ?_
        rcases ifB h with ⟨hc13, h⟩ | ⟨hc13, h⟩
        · refine c_cond_true (hS.ev_ rfl) hc13 ?_
          refine wp_seq ?_
          refine wp_region_lit ?_
          refine st_val hS rfl rfl (by decide) (r_assign rfl (hS.ev_ (v := Value.int .u8 (b8 (13))) rfl)) fun a hS => ?_
          refine st_val hS rfl rfl (by decide) (r_assign rfl (hS.ev_ rfl)) fun a hS => ?_
          refine st_done ?_
          replace hS : Slots 43 [] a [(3, eV w0 ((none : Option Nat))), (2, Value.int .u8 (b8 (13)))] := (hS.part (.cons rfl (.cons rfl (.nil _))))
          refine x_then ?_
          refine wp_ret ?_
          refine x_block_ret ?_
          refine x_then_ret ?_
          have hr' := Option.some.inj h
          subst hr'
          refine ret2 (.inr rfl) hS rfl rfl rfl ?_
          exact ⟨K5, hlK5, hM, rfl⟩
        · refine c_cond_false (hS.ev_ rfl) hc13 ?_
          refine wp_seq ?_
          refine wp_region_lit ?_
          refine st_val hS rfl rfl (by decide) (r_cmp8 rfl (hS.ev_ rfl) (hS.ev_ (v := Value.int .u8 (b8 (116))) rfl) rfl) fun a hS => ?_
          refine st_val hS rfl rfl (by decide) (r_assign rfl (hS.ev_ rfl)) fun a hS => ?_
          refine st_done ?_
          replace hS : Slots 43 [] a [(29, Value.bool (c8 == 116)), (24, Value.int .u8 (b8 (c8))), (4, Value.int .u8 (b8 (c8))), (3, eV w0 ((none : Option Nat))), (2, Value.int .u8 (b8 (0))), (0, Value.pointer (some ⟨g2, 0, none⟩))] := (hS.part (.cons rfl (.cons rfl (.cons rfl (.cons rfl (.cons rfl (.cons rfl (.nil _))))))))
          refine x_then ?_
          rcases ifB h with ⟨hc14, h⟩ | ⟨hc14, h⟩
          · refine c_cond_true (hS.ev_ rfl) hc14 ?_
            refine wp_seq ?_
            refine wp_region_lit ?_
            refine st_val hS rfl rfl (by decide) (r_assign rfl (hS.ev_ (v := Value.int .u8 (b8 (9))) rfl)) fun a hS => ?_
            refine st_val hS rfl rfl (by decide) (r_assign rfl (hS.ev_ rfl)) fun a hS => ?_
            refine st_done ?_
            replace hS : Slots 43 [] a [(3, eV w0 ((none : Option Nat))), (2, Value.int .u8 (b8 (9)))] := (hS.part (.cons rfl (.cons rfl (.nil _))))
            refine x_then ?_
            refine wp_ret ?_
            refine x_block_ret ?_
            refine x_then_ret ?_
            have hr' := Option.some.inj h
            subst hr'
            refine ret2 (.inr rfl) hS rfl rfl rfl ?_
            exact ⟨K5, hlK5, hM, rfl⟩
          · refine c_cond_false (hS.ev_ rfl) hc14 ?_
            refine wp_seq ?_
            refine wp_region_lit ?_
            refine st_val hS rfl rfl (by decide) (r_cmp8 rfl (hS.ev_ rfl) (hS.ev_ (v := Value.int .u8 (b8 (120))) rfl) rfl) fun a hS => ?_
            refine st_val hS rfl rfl (by decide) (r_assign rfl (hS.ev_ rfl)) fun a hS => ?_
            refine st_done ?_
            replace hS : Slots 43 [] a [(31, Value.bool (c8 == 120)), (24, Value.int .u8 (b8 (c8))), (4, Value.int .u8 (b8 (c8))), (3, eV w0 ((none : Option Nat))), (2, Value.int .u8 (b8 (0))), (0, Value.pointer (some ⟨g2, 0, none⟩))] := (hS.part (.cons rfl (.cons rfl (.cons rfl (.cons rfl (.cons rfl (.cons rfl (.nil _))))))))
            refine x_then ?_
            rcases ifB h with ⟨hc15, h⟩ | ⟨hc15, h⟩
            · refine c_cond_true (hS.ev_ rfl) hc15 ?_
              refine wp_seq ?_
              refine wp_region_lit ?_
              refine st_val hS rfl rfl (by decide) (r_move rfl (hS.ev_ rfl)) fun a hS => ?_
              obtain ⟨y16, h17, h⟩ := bindO h
              have hc19 := W_reader_coded_c hG h17 hM
              refine wl_cons rfl (e_call rfl Tryd.func52 rfl rfl (args1 (hS.ev_ rfl)) hc19 ?_)
              rintro _ w ⟨K18, hlK18, hM, rfl⟩
              refine ⟨_, rfl, ?_⟩
              refine pl hS rfl (by decide) fun a hS => ?_
              refine st_val hS rfl rfl (by decide) (r_extract rfl (hS.ev_ rfl) rfl) fun a hS => ?_
              refine st_val hS rfl rfl (by decide) (r_extract rfl (hS.ev_ rfl) rfl) fun a hS => ?_
              refine st_val hS rfl rfl (by decide) (r_assign rfl (hS.ev_ rfl)) fun a hS => ?_
              refine st_val hS rfl rfl (by decide) (r_assign rfl (hS.ev_ rfl)) fun a hS => ?_
              refine st_done ?_
              replace hS : Slots 43 [] a [(3, eV w0 y16.2.1), (2, Value.int .u8 (b8 (y16.1)))] := (hS.part (.cons rfl (.cons rfl (.nil _))))
              refine x_then ?_
              refine wp_ret ?_
              refine x_block_ret ?_
              refine x_then_ret ?_
              have hr' := Option.some.inj h
              subst hr'
              refine ret2 (.inr rfl) hS rfl rfl rfl ?_
              exact ⟨K18, (hlK5.trans hlK18), hM, rfl⟩
            · refine c_cond_false (hS.ev_ rfl) hc15 ?_
              obtain ⟨x20, h21, h⟩ := bindO h
              refine c_cut (fun a w => Slots 43 [] a [(2, Value.int .u8 (b8 (0))), (3, eV w0 ((none : Option Nat))), (4, Value.int .u8 (b8 (c8))), (37, Value.bool (x20))] ∧ Sat w0 w K5 (SP.blk g2 62 [strV (y3.2.f_s), Value.int .i64 (w64 (y3.2.f_at + 1))] :: L)) ?_ ?_
              ·
                refine wp_seq ?_
                refine wp_region_lit ?_
                refine st_val hS rfl rfl (by decide) (r_cmp8 rfl (hS.ev_ rfl) (hS.ev_ (v := Value.int .u8 (b8 (92))) rfl) rfl) fun a hS => ?_
                refine st_val hS rfl rfl (by decide) (r_assign rfl (hS.ev_ rfl)) fun a hS => ?_
                refine st_done ?_
                replace hS : Slots 43 [] a [(37, Value.bool (c8 == 92)), (24, Value.int .u8 (b8 (c8))), (4, Value.int .u8 (b8 (c8))), (3, eV w0 ((none : Option Nat))), (2, Value.int .u8 (b8 (0)))] := (hS.part (.cons rfl (.cons rfl (.cons rfl (.cons rfl (.cons rfl (.nil _)))))))
                refine x_then ?_
                rcases ifB h21 with ⟨hc22, h21⟩ | ⟨hc22, h21⟩
                · refine c_cond_true (hS.ev_ rfl) hc22 ?_
                  refine wp_skip ?_
                  refine x_then ?_
                  obtain rfl := Option.some.inj h21
                  exact ⟨(hS.part (.cons rfl (.cons rfl (.cons rfl (.cons rfl (.nil _)))))), hM⟩
                · refine c_cond_false (hS.ev_ rfl) hc22 ?_
                  refine wp_seq ?_
                  refine wp_region_lit ?_
                  refine st_val hS rfl rfl (by decide) (r_cmp8 rfl (hS.ev_ rfl) (hS.ev_ (v := Value.int .u8 (b8 (34))) rfl) rfl) fun a hS => ?_
                  refine st_val hS rfl rfl (by decide) (r_assign rfl (hS.ev_ rfl)) fun a hS => ?_
                  refine st_done ?_
                  replace hS : Slots 43 [] a [(37, Value.bool (c8 == 34)), (24, Value.int .u8 (b8 (c8))), (4, Value.int .u8 (b8 (c8))), (3, eV w0 ((none : Option Nat))), (2, Value.int .u8 (b8 (0)))] := (hS.part (.cons rfl (.cons rfl (.cons rfl (.cons rfl (.cons rfl (.nil _)))))))
                  refine x_then ?_
                  rcases ifB h21 with ⟨hc23, h21⟩ | ⟨hc23, h21⟩
                  · refine c_cond_true (hS.ev_ rfl) hc23 ?_
                    refine wp_skip ?_
                    refine x_then ?_
                    obtain rfl := Option.some.inj h21
                    exact ⟨(hS.part (.cons rfl (.cons rfl (.cons rfl (.cons rfl (.nil _)))))), hM⟩
                  · refine c_cond_false (hS.ev_ rfl) hc23 ?_
                    refine wp_region_lit ?_
                    refine st_val hS rfl rfl (by decide) (r_cmp8 rfl (hS.ev_ rfl) (hS.ev_ (v := Value.int .u8 (b8 (36))) rfl) rfl) fun a hS => ?_
                    refine st_val hS rfl rfl (by decide) (r_assign rfl (hS.ev_ rfl)) fun a hS => ?_
                    refine st_done ?_
                    replace hS : Slots 43 [] a [(37, Value.bool (c8 == 36)), (4, Value.int .u8 (b8 (c8))), (3, eV w0 ((none : Option Nat))), (2, Value.int .u8 (b8 (0)))] := (hS.part (.cons rfl (.cons rfl (.cons rfl (.cons rfl (.nil _))))))
                    refine x_then ?_
                    obtain rfl := Option.some.inj h21
                    exact ⟨(hS.part (.cons rfl (.cons rfl (.cons rfl (.cons rfl (.nil _)))))), hM⟩
              · rintro a w ⟨hS, hM⟩
                rcases ifB h with ⟨hc24, h⟩ | ⟨hc24, h⟩
                · refine c_cond_true (hS.ev_ rfl) hc24 ?_
                  refine wp_seq ?_
                  refine wp_region_lit ?_
                  refine st_val hS rfl rfl (by decide) (r_move rfl (hS.ev_ rfl)) fun a hS => ?_
                  refine st_val hS rfl rfl (by decide) (r_assign rfl (hS.ev_ rfl)) fun a hS => ?_
                  refine st_val hS rfl rfl (by decide) (r_assign rfl (hS.ev_ rfl)) fun a hS => ?_
                  refine st_done ?_
                  replace hS : Slots 43 [] a [(3, eV w0 ((none : Option Nat))), (2, Value.int .u8 (b8 (c8)))] := (hS.part (.cons rfl (.cons rfl (.nil _))))
                  refine x_then ?_
                  refine wp_ret ?_
                  refine x_block_ret ?_
                  refine x_then_ret ?_
                  have hr' := Option.some.inj h
                  subst hr'
                  refine ret2 (.inr rfl) hS rfl rfl rfl ?_
                  exact ⟨K5, hlK5, hM, rfl⟩
                · refine c_cond_false (hS.ev_ rfl) hc24 ?_
                  refine wp_skip ?_
                  refine x_block ?_
                  refine x_then ?_
                  exact ⟨h, (hS.part (.cons rfl (.cons rfl (.nil _)))), hM⟩
    · rintro a w ⟨h11, hS, hM⟩
      simp only [k10] at h11
      refine wp_seq ?_
      refine tk_start #[false, false, false] mixed_ rfl rfl ?_
      replace hM := hM.drew
      generalize w.drew = w at hM ⊢
      refine dk_val (i := 0) (S := Rd w0 K5 []) #[true, false, false] hS rfl (by kernel_rfl) rfl rfl (by decide) (Rd.up (Hp.le.refl _) hM.nil_) (fun w hR => r_ldG rfl ag_41 (hS.ev_ rfl) (hG 1 (by decide)) hR) fun a hS => ?_
      refine dk_any (i := 1) #[true, true, false] hS rfl (by kernel_rfl) rfl rfl (by decide) (fun w => r_assign rfl (hS.ev_ (v := Value.int .u8 (b8 (0))) rfl)) fun a hS => ?_
      refine dk_any (i := 2) #[true, true, true] hS rfl (by kernel_rfl) rfl rfl (by decide) (fun w => r_assign rfl (hS.ev_ rfl)) fun a hS => ?_
      refine tk_done (by kernel_rfl) ?_
      replace hS : Slots 43 [] a [(3, eV w0 ((some 1 : Option Nat))), (2, Value.int .u8 (b8 (0)))] := (hS.part (.cons rfl (.cons rfl (.nil _))))
      refine x_then ?_
      refine wp_ret ?_
      have hr' := Option.some.inj h11
      subst hr'
      refine ret2 (.inr rfl) hS rfl rfl rfl ?_
      exact ⟨K5, hlK5, hM, rfl⟩

theorem W_literal_c {w0 w : World} {K : Hp} {L : List SP} {p1 : List W_Piece} {p3 : UInt8} {v2 : Value} {r : List W_Piece} (hG : Glob w0) (h : W_literal p1 p3 = some r) (hM : Sat w0 w K (SP.row kW_Piece 46 v2 p1 :: L)) :
    Calls Tryd.prog 50 #[v2, Value.int .u8 (b8 (p3))] w (fun e w' => ∃ (K' : Hp) (v'1 : Value), Hp.le K K' ∧ Sat w0 w' K' (SP.row kW_Piece 46 v'1 r :: L) ∧ e = .returned (v'1)) := by
  refine enter_ (n := 38) (args := [v2, Value.int .u8 (b8 (p3))]) Tryd.func50 rfl rfl (Nat.le_of_ble_eq_true rfl) fun a hS => ?_
  replace hS : Slots 38 [] a [(0, v2), (1, Value.int .u8 (b8 (p3)))] := hS
  unfold W_literal at h
  refine wp_seq ?_
  refine wp_region_lit ?_
  refine st_val hS rfl rfl (by decide) (r_assign rfl (hS.ev_ rfl)) fun a hS => ?_
  replace hM := hM.row_nil kW_Piece 46
  refine st_done ?_
  replace hS : Slots 38 [] a [(4, (Value.slice none 0 0)), (0, v2), (1, Value.int .u8 (b8 (p3)))] := (hS.part (.cons rfl (.cons rfl (.cons rfl (.nil _)))))
  refine x_then ?_
  refine wp_seq ?_
  refine wp_region_lit ?_
  refine st_val hS rfl rfl (by decide) (r_move rfl (hS.ev_ rfl)) fun a hS => ?_
  replace hM := hM.pull 1 rfl rfl
  refine st_val hS rfl rfl (by decide) (r_len_rowR rfl un_22 (hS.ev_ rfl) (Rd.of hM)) fun a hS => ?_
  refine st_val hS rfl rfl (by decide) (r_sub rfl (hS.ev_ rfl) (hS.ev_ rfl)) fun a hS => ?_
  refine st_val hS rfl rfl (by decide) (r_assign rfl (hS.ev_ rfl)) fun a hS => ?_
  refine st_done ?_
  replace hS : Slots 38 [] a [(5, Value.int .i64 (w64 (((p1.length : Int)) - 1))), (4, (Value.slice none 0 0)), (0, v2), (1, Value.int .u8 (b8 (p3)))] := (hS.part (.cons rfl (.cons rfl (.cons rfl (.cons rfl (.nil _))))))
  refine x_then ?_
  refine wp_seq ?_
  refine wp_seq ?_
  refine wp_region_lit ?_
  refine st_val hS rfl rfl (by decide) (r_move rfl (hS.ev_ rfl)) fun a hS => ?_
  refine st_val hS rfl rfl (by decide) (r_cmp rfl (hS.ev_ rfl) (hS.ev_ rfl) rfl) fun a hS => ?_
  refine st_val hS rfl rfl (by decide) (r_move rfl (hS.ev_ rfl)) fun a hS => ?_
  obtain ⟨x5, h6, h⟩ := bindO h
  refine wl_cut 7 (fun a w => Slots 38 [] a [(0, v2), (1, Value.int .u8 (b8 (p3))), (4, (Value.slice none 0 0)), (5, Value.int .i64 (w64 (((p1.length : Int)) - 1))), (18, Value.bool (x5))] ∧ Sat w0 w K (SP.row kW_Piece 46 v2 p1 :: SP.row kW_Piece 46 ((Value.slice none 0 0)) (([] : List W_Piece)) :: L)) ?_ ?_
  ·
    skip
    rcases ifB h6 with ⟨hc7, h6⟩ | ⟨hc7, h6⟩
    ·
      replace hS := hS.known (k := 11) rfl hc7
      refine st_off hS rfl rfl rfl rfl rfl rfl (by decide) fun a hS => ?_
      refine st_off hS rfl rfl rfl rfl rfl rfl (by decide) fun a hS => ?_
      refine st_off hS rfl rfl rfl rfl rfl rfl (by decide) fun a hS => ?_
      refine st_off hS rfl rfl rfl rfl rfl rfl (by decide) fun a hS => ?_
      refine st_off hS rfl rfl rfl rfl rfl rfl (by decide) fun a hS => ?_
      refine st_off hS rfl rfl rfl rfl rfl rfl (by decide) fun a hS => ?_
      refine st_val hS rfl rfl (by decide) (r_pick_true rfl (hS.ev_ rfl) rfl (hS.ev_ rfl)) fun a hS => ?_
      refine st_done ?_
      replace hS : Slots 38 [] a [(18, Value.bool (true)), (5, Value.int .i64 (w64 (((p1.length : Int)) - 1))), (4, (Value.slice none 0 0)), (0, v2), (1, Value.int .u8 (b8 (p3)))] := (hS.part (.cons rfl (.cons rfl (.cons rfl (.cons rfl (.cons rfl (.nil _)))))))
      refine x_then ?_
      obtain rfl := Option.some.inj h6
      exact ⟨(hS.part (.cons rfl (.cons rfl (.cons rfl (.cons rfl (.cons rfl (.nil _))))))), ((hM.pull 1 rfl rfl).pull 1 rfl rfl)⟩
    ·
      replace hS := hS.known (k := 11) rfl hc7
      refine st_want hS rfl rfl rfl rfl rfl (by decide) (r_move rfl (hS.ev_ rfl)) fun a hS => ?_
      refine st_want hS rfl rfl rfl rfl rfl (by decide) (r_move rfl (hS.ev_ rfl)) fun a hS => ?_
      obtain ⟨e8, h9, h6⟩ := bindO h6
      obtain ⟨ad10, cp11, cs12, hv13, hr14, h0_15, h1_16, hq17⟩ := row_at hM h9 (by decide)
      refine st_want hS rfl rfl rfl rfl rfl (by decide) (r_idx_sl rfl un_22 ti_46 (hS.ev_ rfl) hv13 (hS.ev_ rfl) h0_15 h1_16) fun a hS => ?_
      refine st_want hS rfl rfl rfl rfl rfl (by decide) (r_fld_k rfl fo_46_0 (hS.ev_ rfl)) fun a hS => ?_
      refine st_want hS rfl rfl rfl rfl rfl (by decide) (r_ld1_o (u := strV (e8.f_Var)) (m := 0) rfl ag_9 hv13 (hS.ev_ rfl) h9 (fun _ _ hr => by obtain rfl := kW_Piece_open hr; rfl) (Rd.of hM) (by decide)) fun a hS => ?_
      refine st_want hS rfl rfl rfl rfl rfl (by decide) (r_sne rfl (hS.ev_ rfl) (hS.ev_ (v := strV (([] : List UInt8))) rfl)) fun a hS => ?_
      refine st_val hS rfl rfl (by decide) (r_pick_false rfl (hS.ev_ rfl) rfl (hS.ev_ rfl)) fun a hS => ?_
      refine st_done ?_
      replace hS : Slots 38 [] a [(18, Value.bool (e8.f_Var != ([] : List UInt8))), (5, Value.int .i64 (w64 (((p1.length : Int)) - 1))), (4, (Value.slice none 0 0)), (0, v2), (1, Value.int .u8 (b8 (p3)))] := (hS.part (.cons rfl (.cons rfl (.cons rfl (.cons rfl (.cons rfl (.nil _)))))))
      refine x_then ?_
      obtain rfl := Option.some.inj h6
      exact ⟨(hS.part (.cons rfl (.cons rfl (.cons rfl (.cons rfl (.cons rfl (.nil _))))))), ((hM.pull 1 rfl rfl).pull 1 rfl rfl)⟩
  · rintro a w ⟨hS, hM⟩
    refine st_done ?_
    replace hS : Slots 38 [] a [(0, v2), (1, Value.int .u8 (b8 (p3))), (4, (Value.slice none 0 0)), (5, Value.int .i64 (w64 (((p1.length : Int)) - 1))), (18, Value.bool (x5))] := (hS.part (.cons rfl (.cons rfl (.cons rfl (.cons rfl (.cons rfl (.nil _)))))))
    refine x_then ?_
    rcases ifB h with ⟨hc18, h⟩ | ⟨hc18, h⟩
    · refine c_cond_true (hS.ev_ rfl) hc18 ?_
      refine wp_seq ?_
      refine wp_region_lit ?_
      refine st_val hS rfl rfl (by decide) (r_move rfl (hS.ev_ rfl)) fun a hS => ?_
      refine st_val hS rfl rfl (by decide) (r_move rfl (hS.ev_ rfl)) fun a hS => ?_
      refine wl_cons rfl (e_litK (d := Kd.u8) (e := 5) (cs := [Value.int .u8 (b8 (p3))]) (xs := ([p3] : List UInt8)) hM rfl (parts_ev hS rfl) (by kernel_rfl) ⟨[Value.int .u8 (b8 (p3))], [], rfl, rfl, rfl⟩ rfl (by decide) fun v19 K20 w hlK20 hM f21 => ?_)
      refine pl hS rfl (by decide) fun a hS => ?_
      refine st_val hS rfl rfl (by decide) (r_stringR rfl un_51 un_5 un_9 (hS.ev_ rfl) (Rd.of hM.nil_) f21) fun a hS => ?_
      refine st_val hS rfl rfl (by decide) (r_build (cs := [strV (([] : List UInt8)), strV (([p3] : List UInt8))]) rfl (parts_ev hS rfl) (by kernel_rfl)) fun a hS => ?_
      refine wl_cons rfl (e_litK (d := kW_Piece) (e := 46) (cs := [strV (([] : List UInt8)), strV (([p3] : List UInt8))]) (xs := [(⟨([] : List UInt8), ([p3] : List UInt8)⟩ : W_Piece)]) hM rfl (parts_ev hS rfl) (by kernel_rfl) ⟨[strV (([] : List UInt8)), strV (([p3] : List UInt8))], [], rfl, (kW_Piece_shut), rfl⟩ rfl (by decide) fun v22 K23 w hlK23 hM f24 => ?_)
      refine pl hS rfl (by decide) fun a hS => ?_
      obtain ⟨h25, h⟩ := bindU h
      refine wl_cons rfl (e_apd_sl hM rfl un_22 un_22 ti_46 rfl rfl (by decide) (hS.ev_ rfl) (hS.ev_ rfl) f24 (req_some h25) fun v26 w hM => ?_)
      refine pl hS rfl (by decide) fun a hS => ?_
      refine st_val hS rfl rfl (by decide) (r_assign rfl (hS.ev_ rfl)) fun a hS => ?_
      refine st_done ?_
      replace hS : Slots 38 [] a [(4, v26), (0, v2), (1, Value.int .u8 (b8 (p3))), (5, Value.int .i64 (w64 (((p1.length : Int)) - 1)))] := (hS.part (.cons rfl (.cons rfl (.cons rfl (.cons rfl (.nil _))))))
      refine x_then ?_
      refine wp_ret ?_
      refine x_then_ret ?_
      have hr' := Option.some.inj h
      subst hr'
      refine ret1 (.inr rfl) hS rfl rfl ?_
      exact ⟨K23, (v26), (hlK20.trans hlK23), (hM.pull 1 rfl rfl).tail, rfl⟩
    · refine c_cond_false (hS.ev_ rfl) hc18 ?_
      refine wp_skip ?_
      refine x_then ?_
      refine wp_seq ?_
      refine tk_start #[false, false, false, false, false, false, false, false, false, false, false, false] mixed_ rfl rfl ?_
      replace hM := hM.drew
      generalize w.drew = w at hM ⊢
      refine dk_any (i := 0) #[true, false, false, false, false, false, false, false, false, false, false, false] hS rfl (by kernel_rfl) rfl rfl (by decide) (fun w => r_move rfl (hS.ev_ rfl)) fun a hS => ?_
      refine dk_any (i := 1) #[true, true, false, false, false, false, false, false, false, false, false, false] hS rfl (by kernel_rfl) rfl rfl (by decide) (fun w => r_move rfl (hS.ev_ rfl)) fun a hS => ?_
      obtain ⟨e27, h28, h⟩ := bindO h
      obtain ⟨ad29, cp30, cs31, hv32, hr33, h0_34, h1_35, hq36⟩ := row_at hM h28 (by decide)
      refine dk_any (i := 2) #[true, true, true, false, false, false, false, false, false, false, false, false] hS rfl (by kernel_rfl) rfl rfl (by decide) (fun w => r_idx_sl rfl un_22 ti_46 (hS.ev_ rfl) hv32 (hS.ev_ rfl) h0_34 h1_35) fun a hS => ?_
      refine dk_any (i := 3) #[true, true, true, true, false, false, false, false, false, false, false, false] hS rfl (by kernel_rfl) rfl rfl (by decide) (fun w => r_fld_k rfl fo_46_1 (hS.ev_ rfl)) fun a hS => ?_
      refine dk_val (i := 4) (S := Rd w0 K [SP.row kW_Piece 46 v2 p1]) #[true, true, true, true, true, false, false, false, false, false, false, false] hS rfl (by kernel_rfl) rfl rfl (by decide) (Rd.of hM.only) (fun w hR => r_ld1_o (u := strV (e27.f_Lit)) (m := 1) rfl ag_9 hv32 (hS.ev_ rfl) h28 (fun _ _ hr => by obtain rfl := kW_Piece_open hr; rfl) hR (by decide)) fun a hS => ?_
      refine dk_any (i := 5) #[true, true, true, true, true, true, false, false, false, false, false, false] hS rfl (by kernel_rfl) rfl rfl (by decide) (fun w => r_move rfl (hS.ev_ rfl)) fun a hS => ?_
      refine dk_one (i := 6) #[true, true, true, true, true, true, true, false, false, false, false, false] rfl (by kernel_rfl) rfl (e_litK (d := Kd.u8) (e := 5) (cs := [Value.int .u8 (b8 (p3))]) (xs := ([p3] : List UInt8)) hM rfl (parts_ev hS rfl) (by kernel_rfl) ⟨[Value.int .u8 (b8 (p3))], [], rfl, rfl, rfl⟩ rfl (by decide) fun v37 K38 w hlK38 hM f39 => ?_)
      refine pT hS rfl (by decide) (Dem.keep (fun _ => Rd.up hlK38 hM.only) Dem.nil) fun a hS => ?_
      refine dk_val (i := 7) (S := Rd w0 K38 []) #[true, true, true, true, true, true, true, true, false, false, false, false] hS rfl (by kernel_rfl) rfl rfl (by decide) (Rd.up (Hp.le.refl _) hM.nil_) (fun w hR => r_stringR rfl un_51 un_5 un_9 (hS.ev_ rfl) hR f39) fun a hS => ?_
      obtain ⟨h40, h⟩ := bindU h
      refine dk_any (i := 8) #[true, true, true, true, true, true, true, true, true, false, false, false] hS rfl (by kernel_rfl) rfl rfl (by decide) (fun w => r_sadd rfl (hS.ev_ rfl) (hS.ev_ rfl) (req_some h40)) fun a hS => ?_
      obtain ⟨e41, h42, h⟩ := bindO h
      obtain ⟨ad43, cp44, cs45, hv46, hr47, h0_48, h1_49, hq50⟩ := row_at hM h42 (by decide)
      refine dk_any (i := 9) #[true, true, true, true, true, true, true, true, true, true, false, false] hS rfl (by kernel_rfl) rfl rfl (by decide) (fun w => r_idx_sl rfl un_22 ti_46 (hS.ev_ rfl) hv46 (hS.ev_ rfl) h0_48 h1_49) fun a hS => ?_
      refine dk_any (i := 10) #[true, true, true, true, true, true, true, true, true, true, true, false] hS rfl (by kernel_rfl) rfl rfl (by decide) (fun w => r_fld_k rfl fo_46_1 (hS.ev_ rfl)) fun a hS => ?_
      refine dk_one (i := 11) #[true, true, true, true, true, true, true, true, true, true, true, true] rfl (by kernel_rfl) rfl (e_store_o (x' := (⟨e41.f_Var, e27.f_Lit ++ ([p3] : List UInt8)⟩ : W_Piece)) (m := 1) hM rfl ti_9 hv46 (hS.ev_ rfl) h42 (hS.ev_ rfl) rfl (by decide) (fun _ hr => by obtain rfl := kW_Piece_open hr; exact kW_Piece_shut) fun w hM => ?_)
      refine pT0 hS rfl (Dem.wait (by kernel_rfl) (Dem.wait (by kernel_rfl) Dem.nil)) fun a hS => ?_
      refine tk_done (by kernel_rfl) ?_
      replace hS : Slots 38 [] a [(0, v2), (4, (Value.slice none 0 0))] := (hS.part (.cons rfl (.cons rfl (.nil _))))
      refine x_then ?_
      refine wp_seq ?_
      refine wp_region_lit ?_
      refine st_val hS rfl rfl (by decide) (r_move rfl (hS.ev_ rfl)) fun a hS => ?_
      refine st_val hS rfl rfl (by decide) (r_assign rfl (hS.ev_ rfl)) fun a hS => ?_
      refine st_done ?_
      replace hS : Slots 38 [] a [(4, v2)] := (hS.part (.cons rfl (.nil _)))
      refine x_then ?_
      refine wp_ret ?_
      have hr' := Option.some.inj h
      subst hr'
      refine ret1 (.inr rfl) hS rfl rfl ?_
      exact ⟨K38, (v2), hlK38, (hM.pull 1 rfl rfl).tail, rfl⟩

theorem W_reader_piece_c {w0 w : World} {K : Hp} {L : List SP} {p1 : W_reader} {p3 : List W_Piece} {g2 : Nat} {v4 : Value} {r : (List W_Piece) × (Option Nat) × W_reader} (hG : Glob w0) (h : W_reader_piece p1 p3 = some r) (hM : Sat w0 w K (SP.blk g2 62 [strV (p1.f_s), Value.int .i64 (p1.f_at)] :: SP.row kW_Piece 46 v4 p3 :: L)) :
    Calls Tryd.prog 46 #[Value.pointer (some ⟨g2, 0, none⟩), v4] w (fun e w' => ∃ (K' : Hp) (v'1 : Value), Hp.le K K' ∧ Sat w0 w' K' (SP.row kW_Piece 46 v'1 r.1 :: SP.blk g2 62 [strV (r.2.2.f_s), Value.int .i64 (r.2.2.f_at)] :: L) ∧ e = .returned (Value.tuple #[v'1, eV w0 r.2.1])) := by
  refine enter_ (n := 57) (args := [Value.pointer (some ⟨g2, 0, none⟩), v4]) Tryd.func46 rfl rfl (Nat.le_of_ble_eq_true rfl) fun a hS => ?_
  replace hS : Slots 57 [] a [(0, Value.pointer (some ⟨g2, 0, none⟩)), (1, v4)] := hS
  unfold W_reader_piece at h
  refine wp_seq ?_
  refine wp_region_lit ?_
  refine st_val hS rfl rfl (by decide) (r_assign rfl (hS.ev_ rfl)) fun a hS => ?_
  replace hM := hM.row_nil kW_Piece 46
  refine st_val hS rfl rfl (by decide) (r_assign rfl (hS.ev_ rfl)) fun a hS => ?_
  refine st_done ?_
  replace hS : Slots 57 [] a [(5, eV w0 ((none : Option Nat))), (4, (Value.slice none 0 0)), (0, Value.pointer (some ⟨g2, 0, none⟩)), (1, v4)] := (hS.part (.cons rfl (.cons rfl (.cons rfl (.cons rfl (.nil _))))))
  refine x_then ?_
  refine wp_seq ?_
  refine tk_start #[false, false, false, false, false, false, false, false, false, false] mixed_ rfl rfl ?_
  replace hM := hM.drew
  generalize w.drew = w at hM ⊢
  refine dk_any (i := 0) #[true, false, false, false, false, false, false, false, false, false] hS rfl (by kernel_rfl) rfl rfl (by decide) (fun w => r_move rfl (hS.ev_ rfl)) fun a hS => ?_
  refine dk_any (i := 1) #[true, true, false, false, false, false, false, false, false, false] hS rfl (by kernel_rfl) rfl rfl (by decide) (fun w => r_nilCheck rfl (hS.ev_ rfl)) fun a hS => ?_
  refine dk_any (i := 2) #[true, true, true, false, false, false, false, false, false, false] hS rfl (by kernel_rfl) rfl rfl (by decide) (fun w => r_fld_b rfl fo_62_0 (hS.ev_ rfl)) fun a hS => ?_
  replace hM := hM.pull 1 rfl rfl
  refine dk_val (i := 3) (S := Rd w0 K [SP.blk g2 62 [strV (p1.f_s), Value.int .i64 (p1.f_at)]]) #[true, true, true, true, false, false, false, false, false, false] hS rfl (by kernel_rfl) rfl rfl (by decide) (Rd.of hM.only) (fun w hR => r_ld1_b rfl ag_9 (hS.ev_ rfl) rfl hR) fun a hS => ?_
  refine dk_any (i := 4) #[true, true, true, true, true, false, false, false, false, false] hS rfl (by kernel_rfl) rfl rfl (by decide) (fun w => r_move rfl (hS.ev_ rfl)) fun a hS => ?_
  refine dk_any (i := 5) #[true, true, true, true, true, true, false, false, false, false] hS rfl (by kernel_rfl) rfl rfl (by decide) (fun w => r_nilCheck rfl (hS.ev_ rfl)) fun a hS => ?_
  refine dk_any (i := 6) #[true, true, true, true, true, true, true, false, false, false] hS rfl (by kernel_rfl) rfl rfl (by decide) (fun w => r_fld_b rfl fo_62_1 (hS.ev_ rfl)) fun a hS => ?_
  refine dk_val (i := 7) (S := Rd w0 K [SP.blk g2 62 [strV (p1.f_s), Value.int .i64 (p1.f_at)]]) #[true, true, true, true, true, true, true, true, false, false] hS rfl (by kernel_rfl) rfl rfl (by decide) (Rd.of hM.only) (fun w hR => r_ld1_b rfl ag_3 (hS.ev_ rfl) rfl hR) fun a hS => ?_
  obtain ⟨c6, h7, h⟩ := bindO h
  refine dk_any (i := 8) #[true, true, true, true, true, true, true, true, true, false] hS rfl (by kernel_rfl) rfl rfl (by decide) (fun w => r_index_s rfl un_9 (hS.ev_ rfl) (hS.ev_ rfl) h7) fun a hS => ?_
  refine dk_any (i := 9) #[true, true, true, true, true, true, true, true, true, true] hS rfl (by kernel_rfl) rfl rfl (by decide) (fun w => r_assign rfl (hS.ev_ rfl)) fun a hS => ?_
  refine tk_done (by kernel_rfl) ?_
  replace hS : Slots 57 [] a [(6, Value.int .u8 (b8 (c6))), (5, eV w0 ((none : Option Nat))), (4, (Value.slice none 0 0)), (0, Value.pointer (some ⟨g2, 0, none⟩)), (1, v4)] := (hS.part (.cons rfl (.cons rfl (.cons rfl (.cons rfl (.cons rfl (.nil _)))))))
  refine x_then ?_
  refine wp_seq ?_
  refine wp_region_lit ?_
  refine st_val hS rfl rfl (by decide) (r_move rfl (hS.ev_ rfl)) fun a hS => ?_
  refine st_val hS rfl rfl (by decide) (r_nilCheck rfl (hS.ev_ rfl)) fun a hS => ?_
  refine st_val hS rfl rfl (by decide) (r_fld_b rfl fo_62_1 (hS.ev_ rfl)) fun a hS => ?_
  refine st_val hS rfl rfl (by decide) (r_ld1_b rfl ag_3 (hS.ev_ rfl) rfl (Rd.of hM)) fun a hS => ?_
  refine st_val hS rfl rfl (by decide) (r_add rfl (hS.ev_ rfl) (hS.ev_ rfl)) fun a hS => ?_
  refine st_val hS rfl rfl (by decide) (r_nilCheck rfl (hS.ev_ rfl)) fun a hS => ?_
  refine st_val hS rfl rfl (by decide) (r_fld_b rfl fo_62_1 (hS.ev_ rfl)) fun a hS => ?_
  refine wl_cons rfl (e_store1 hM rfl ti_3 (hS.ev_ rfl) (hS.ev_ rfl) rfl (Nat.lt_of_lt_of_le (Nat.le_of_ble_eq_true rfl) (Nat.le_refl _)) fun w hM => ?_)
  have hM : Sat w0 w K (SP.blk g2 62 [strV (p1.f_s), Value.int .i64 (w64 (p1.f_at + 1))] :: SP.row kW_Piece 46 ((Value.slice none 0 0)) (([] : List W_Piece)) :: SP.row kW_Piece 46 v4 p3 :: L) := hM
  refine pl0 hS rfl fun a hS => ?_
  refine st_done ?_
  replace hS : Slots 57 [] a [(6, Value.int .u8 (b8 (c6))), (5, eV w0 ((none : Option Nat))), (4, (Value.slice none 0 0)), (0, Value.pointer (some ⟨g2, 0, none⟩)), (1, v4)] := (hS.part (.cons rfl (.cons rfl (.cons rfl (.cons rfl (.cons rfl (.nil _)))))))
  refine x_then ?_
  refine wp_seq ?_
  refine wp_seq ?_
  refine wp_region_lit ?_
  refine st_val hS rfl rfl (by decide) (r_move rfl (hS.ev_ rfl)) fun a hS => ?_
  refine st_done ?_
  replace hS : Slots 57 [] a [(27, Value.int .u8 (b8 (c6))), (6, Value.int .u8 (b8 (c6))), (5, eV w0 ((none : Option Nat))), (4, (Value.slice none 0 0)), (0, Value.pointer (some ⟨g2, 0, none⟩)), (1, v4)] := (hS.part (.cons rfl (.cons rfl (.cons rfl (.cons rfl (.cons rfl (.cons rfl (.nil _))))))))
  refine x_then ?_
  refine wp_block ?_
  refine wp_seq ?_
  refine wp_region_lit ?_
  refine st_val hS rfl rfl (by decide) (r_cmp8 rfl (hS.ev_ rfl) (hS.ev_ (v := Value.int .u8 (b8 (36))) rfl) rfl) fun a hS => ?_
  refine st_val hS rfl rfl (by decide) (r_assign rfl (hS.ev_ rfl)) fun a hS => ?_
  refine st_done ?_
  replace hS : Slots 57 [] a [(28, Value.bool (c6 == 36)), (27, Value.int .u8 (b8 (c6))), (6, Value.int .u8 (b8 (c6))), (5, eV w0 ((none : Option Nat))), (4, (Value.slice none 0 0)), (0, Value.pointer (some ⟨g2, 0, none⟩)), (1, v4)] := (hS.part (.cons rfl (.cons rfl (.cons rfl (.cons rfl (.cons rfl (.cons rfl (.cons rfl (.nil _)))))))))
  refine x_then ?_
  rcases ifB h with ⟨hc8, h⟩ | ⟨hc8, h⟩
  · refine c_cond_true (hS.ev_ rfl) hc8 ?_
    refine wp_seq ?_
    refine wp_region_lit ?_
    refine st_val hS rfl rfl (by decide) (r_move rfl (hS.ev_ rfl)) fun a hS => ?_
    obtain ⟨y9, h10, h⟩ := bindO h
    have hc12 := W_reader_variable_c hG h10 hM
    refine wl_cons rfl (e_call rfl Tryd.func48 rfl rfl (args1 (hS.ev_ rfl)) hc12 ?_)
    rintro _ w ⟨K11, hlK11, hM, rfl⟩
    refine ⟨_, rfl, ?_⟩
    refine pl hS rfl (by decide) fun a hS => ?_
    refine st_val hS rfl rfl (by decide) (r_move rfl (hS.ev_ rfl)) fun a hS => ?_
    refine st_val hS rfl rfl (by decide) (r_extract rfl (hS.ev_ rfl) rfl) fun a hS => ?_
    refine st_val hS rfl rfl (by decide) (r_extract rfl (hS.ev_ rfl) rfl) fun a hS => ?_
    refine wl_cons rfl (e_alloc (cs := [strV (([] : List UInt8)), strV (([] : List UInt8))]) hM rfl ti_46 rfl fun g13 w hM => ?_)
    refine pl hS rfl (by decide) fun a hS => ?_
    refine wl_cons rfl (e_storeN (vs := [strV (y9.1.f_Var), strV (y9.1.f_Lit)]) hM rfl ti_46 (hS.ev_ rfl) (hS.ev_ rfl) (ones_cons rfl (ones_cons rfl ones_nil)) (Nat.le_of_ble_eq_true rfl) fun w hM => ?_)
    have hM : Sat w0 w K11 (SP.blk g13 46 [strV (y9.1.f_Var), strV (y9.1.f_Lit)] :: SP.blk g2 62 [strV (y9.2.2.f_s), Value.int .i64 (y9.2.2.f_at)] :: SP.row kW_Piece 46 ((Value.slice none 0 0)) (([] : List W_Piece)) :: SP.row kW_Piece 46 v4 p3 :: L) := hM
    refine pl0 hS rfl fun a hS => ?_
    refine st_val hS rfl rfl (by decide) (r_assign rfl (hS.ev_ rfl)) fun a hS => ?_
    refine st_done ?_
    replace hS : Slots 57 [] a [(8, eV w0 y9.2.1), (7, Value.pointer (some ⟨g13, 0, none⟩)), (6, Value.int .u8 (b8 (c6))), (5, eV w0 ((none : Option Nat))), (4, (Value.slice none 0 0)), (1, v4)] := (hS.part (.cons rfl (.cons rfl (.cons rfl (.cons rfl (.cons rfl (.cons rfl (.nil _))))))))
    refine x_then ?_
    refine wp_seq ?_
    refine wp_region_lit ?_
    refine st_val hS rfl rfl (by decide) (r_move rfl (hS.ev_ rfl)) fun a hS => ?_
    refine st_val hS rfl rfl (by decide) (r_ldN_b (cs' := [strV (y9.1.f_Var), strV (y9.1.f_Lit)]) rfl ag_46 ti_46 (hS.ev_ rfl) rfl (Rd.of hM)) fun a hS => ?_
    refine wl_cons rfl (e_litK (d := kW_Piece) (e := 46) (cs := [strV (y9.1.f_Var), strV (y9.1.f_Lit)]) (xs := [(⟨y9.1.f_Var, y9.1.f_Lit⟩ : W_Piece)]) hM rfl (parts_ev hS rfl) (by kernel_rfl) ⟨[strV (y9.1.f_Var), strV (y9.1.f_Lit)], [], rfl, (kW_Piece_shut), rfl⟩ rfl (by decide) fun v15 K16 w hlK16 hM f17 => ?_)
    refine pl hS rfl (by decide) fun a hS => ?_
    replace hM := hM.pull 3 rfl rfl
    obtain ⟨h18, h⟩ := bindU h
    refine wl_cons rfl (e_apd_sl hM rfl un_22 un_22 ti_46 rfl rfl (by decide) (hS.ev_ rfl) (hS.ev_ rfl) f17 (req_some h18) fun v19 w hM => ?_)
    refine pl hS rfl (by decide) fun a hS => ?_
    refine st_val hS rfl rfl (by decide) (r_move rfl (hS.ev_ rfl)) fun a hS => ?_
    refine st_val hS rfl rfl (by decide) (r_assign rfl (hS.ev_ rfl)) fun a hS => ?_
    refine st_val hS rfl rfl (by decide) (r_assign rfl (hS.ev_ rfl)) fun a hS => ?_
    refine st_done ?_
    replace hS : Slots 57 [] a [(5, eV w0 y9.2.1), (4, v19), (6, Value.int .u8 (b8 (c6))), (1, v4)] := (hS.part (.cons rfl (.cons rfl (.cons rfl (.cons rfl (.nil _))))))
    refine x_then ?_
    refine wp_ret ?_
    refine x_block_ret ?_
    refine x_then_ret ?_
    have hr' := Option.some.inj h
    subst hr'
    refine ret2 (.inr rfl) hS rfl rfl rfl ?_
    exact ⟨K16, (v19), (hlK11.trans hlK16), ((((hM.pull 1 rfl rfl).tail.pull 2 rfl rfl).tail.pull 1 rfl rfl).pull 1 rfl rfl), rfl⟩
  · refine c_cond_false (hS.ev_ rfl) hc8 ?_
    refine wp_seq ?_
    refine wp_region_lit ?_
    refine st_val hS rfl rfl (by decide) (r_cmp8 rfl (hS.ev_ rfl) (hS.ev_ (v := Value.int .u8 (b8 (10))) rfl) rfl) fun a hS => ?_
    refine st_val hS rfl rfl (by decide) (r_assign rfl (hS.ev_ rfl)) fun a hS => ?_
    refine st_done ?_
    replace hS : Slots 57 [] a [(40, Value.bool (c6 == 10)), (27, Value.int .u8 (b8 (c6))), (6, Value.int .u8 (b8 (c6))), (5, eV w0 ((none : Option Nat))), (4, (Value.slice none 0 0)), (0, Value.pointer (some ⟨g2, 0, none⟩)), (1, v4)] := (hS.part (.cons rfl (.cons rfl (.cons rfl (.cons rfl (.cons rfl (.cons rfl (.cons rfl (.nil _)))))))))
    refine x_then ?_
    rcases ifB h with ⟨hc20, h⟩ | ⟨hc20, h⟩
    · refine c_cond_true (hS.ev_ rfl) hc20 ?_
      refine wp_seq ?_
      refine tk_start #[false, false, false] mixed_ rfl rfl ?_
      replace hM := hM.drew
      generalize w.drew = w at hM ⊢
      refine dk_val (i := 0) (S := Rd w0 K []) #[true, false, false] hS rfl (by kernel_rfl) rfl rfl (by decide) (Rd.up (Hp.le.refl _) hM.nil_) (fun w hR => r_ldG rfl ag_41 (hS.ev_ rfl) (hG 1 (by decide)) hR) fun a hS => ?_
      refine dk_any (i := 1) #[true, true, false] hS rfl (by kernel_rfl) rfl rfl (by decide) (fun w => r_assign rfl (hS.ev_ rfl)) fun a hS => ?_
      replace hM := hM.row_nil kW_Piece 46
      refine dk_any (i := 2) #[true, true, true] hS rfl (by kernel_rfl) rfl rfl (by decide) (fun w => r_assign rfl (hS.ev_ rfl)) fun a hS => ?_
      refine tk_done (by kernel_rfl) ?_
      replace hS : Slots 57 [] a [(5, eV w0 ((some 1 : Option Nat))), (4, (Value.slice none 0 0)), (6, Value.int .u8 (b8 (c6))), (1, v4)] := (hS.part (.cons rfl (.cons rfl (.cons rfl (.cons rfl (.nil _))))))
      refine x_then ?_
      refine wp_ret ?_
      refine x_block_ret ?_
      refine x_then_ret ?_
      have hr' := Option.some.inj h
      subst hr'
      refine ret2 (.inr rfl) hS rfl rfl rfl ?_
      exact ⟨K, ((Value.slice none 0 0)), (Hp.le.refl _), ((((hM.pull 2 rfl rfl).tail.pull 2 rfl rfl).tail.pull 1 rfl rfl).pull 1 rfl rfl), rfl⟩
    · refine c_cond_false (hS.ev_ rfl) hc20 ?_
      refine wp_seq ?_
      refine wp_region_lit ?_
      refine st_val hS rfl rfl (by decide) (r_cmp8 rfl (hS.ev_ rfl) (hS.ev_ (v := Value.int .u8 (b8 (92))) rfl) rfl) fun a hS => ?_
      refine st_val hS rfl rfl (by decide) (r_assign rfl (hS.ev_ rfl)) fun a hS => ?_
      refine st_done ?_
      replace hS : Slots 57 [] a [(43, Value.bool (c6 == 92)), (6, Value.int .u8 (b8 (c6))), (5, eV w0 ((none : Option Nat))), (4, (Value.slice none 0 0)), (0, Value.pointer (some ⟨g2, 0, none⟩)), (1, v4)] := (hS.part (.cons rfl (.cons rfl (.cons rfl (.cons rfl (.cons rfl (.cons rfl (.nil _))))))))
      refine x_then ?_
      rcases ifB h with ⟨hc22, h⟩ | ⟨hc22, h⟩
      · refine c_cond_true (hS.ev_ rfl) hc22 ?_
        refine wp_seq ?_
        refine wp_region_lit ?_
        refine st_val hS rfl rfl (by decide) (r_move rfl (hS.ev_ rfl)) fun a hS => ?_
        obtain ⟨y23, h24, h⟩ := bindO h
        have hc26 := W_reader_escape_c hG h24 hM
        refine wl_cons rfl (e_call rfl Tryd.func49 rfl rfl (args1 (hS.ev_ rfl)) hc26 ?_)
        rintro _ w ⟨K25, hlK25, hM, rfl⟩
        refine ⟨_, rfl, ?_⟩
        refine pl hS rfl (by decide) fun a hS => ?_
        refine st_val hS rfl rfl (by decide) (r_move rfl (hS.ev_ rfl)) fun a hS => ?_
        refine st_val hS rfl rfl (by decide) (r_extract rfl (hS.ev_ rfl) rfl) fun a hS => ?_
        refine st_val hS rfl rfl (by decide) (r_extract rfl (hS.ev_ rfl) rfl) fun a hS => ?_
        refine st_val hS rfl rfl (by decide) (r_assign rfl (hS.ev_ rfl)) fun a hS => ?_
        refine st_val hS rfl rfl (by decide) (r_assign rfl (hS.ev_ rfl)) fun a hS => ?_
        refine st_done ?_
        replace hS : Slots 57 [] a [(10, eV w0 y23.2.1), (9, Value.int .u8 (b8 (y23.1))), (6, Value.int .u8 (b8 (c6))), (5, eV w0 ((none : Option Nat))), (4, (Value.slice none 0 0)), (1, v4)] := (hS.part (.cons rfl (.cons rfl (.cons rfl (.cons rfl (.cons rfl (.cons rfl (.nil _))))))))
        refine x_then ?_
        refine wp_seq ?_
        refine wp_region_lit ?_
        refine st_val hS rfl rfl (by decide) (r_move rfl (hS.ev_ rfl)) fun a hS => ?_
        refine st_val hS rfl rfl (by decide) (r_move rfl (hS.ev_ rfl)) fun a hS => ?_
        obtain ⟨y27, h28, h⟩ := bindO h
        replace hM := hM.pull 2 rfl rfl
        have hc30 := W_literal_c hG h28 hM
        refine wl_cons rfl (e_call rfl Tryd.func50 rfl rfl (args2 (hS.ev_ rfl) (hS.ev_ rfl)) hc30 ?_)
        rintro _ w ⟨K29, v31, hlK29, hM, rfl⟩
        refine ⟨_, rfl, ?_⟩
        refine pl hS rfl (by decide) fun a hS => ?_
        refine st_val hS rfl rfl (by decide) (r_move rfl (hS.ev_ rfl)) fun a hS => ?_
        refine st_val hS rfl rfl (by decide) (r_assign rfl (hS.ev_ rfl)) fun a hS => ?_
        refine st_val hS rfl rfl (by decide) (r_assign rfl (hS.ev_ rfl)) fun a hS => ?_
        refine st_done ?_
        replace hS : Slots 57 [] a [(5, eV w0 y23.2.1), (4, v31), (6, Value.int .u8 (b8 (c6)))] := (hS.part (.cons rfl (.cons rfl (.cons rfl (.nil _)))))
        refine x_then ?_
        refine wp_ret ?_
        refine x_block_ret ?_
        refine x_then_ret ?_
        have hr' := Option.some.inj h
        subst hr'
        refine ret2 (.inr rfl) hS rfl rfl rfl ?_
        exact ⟨K29, (v31), (hlK25.trans hlK29), (((hM.pull 2 rfl rfl).tail.pull 1 rfl rfl).pull 1 rfl rfl), rfl⟩
      · refine c_cond_false (hS.ev_ rfl) hc22 ?_
        refine wp_skip ?_
        refine x_block ?_
        refine x_then ?_
        refine wp_seq ?_
        refine wp_region_lit ?_
        refine st_val hS rfl rfl (by decide) (r_move rfl (hS.ev_ rfl)) fun a hS => ?_
        refine st_val hS rfl rfl (by decide) (r_move rfl (hS.ev_ rfl)) fun a hS => ?_
        obtain ⟨y33, h34, h⟩ := bindO h
        replace hM := hM.pull 2 rfl rfl
        have hc36 := W_literal_c hG h34 hM
        refine wl_cons rfl (e_call rfl Tryd.func50 rfl rfl (args2 (hS.ev_ rfl) (hS.ev_ rfl)) hc36 ?_)
        rintro _ w ⟨K35, v37, hlK35, hM, rfl⟩
        refine ⟨_, rfl, ?_⟩
        refine pl hS rfl (by decide) fun a hS => ?_
        refine st_val hS rfl rfl (by decide) (r_assign rfl (hS.ev_ rfl)) fun a hS => ?_
        refine st_val hS rfl rfl (by decide) (r_assign rfl (hS.ev_ rfl)) fun a hS => ?_
        refine st_done ?_
        replace hS : Slots 57 [] a [(5, eV w0 ((none : Option Nat))), (4, v37)] := (hS.part (.cons rfl (.cons rfl (.nil _))))
        refine x_then ?_
        refine wp_ret ?_
        have hr' := Option.some.inj h
        subst hr'
        refine ret2 (.inr rfl) hS rfl rfl rfl ?_
        exact ⟨K35, (v37), hlK35, (((hM.pull 2 rfl rfl).tail.pull 1 rfl rfl).pull 1 rfl rfl), rfl⟩

theorem slices_IndexFunc_W_Piece_W_Piece_c {w0 w : World} {K : Hp} {L : List SP} {p1 : List W_Piece} {p4 : W_Piece → Option Bool} {v2 : Value} {q5 : Value} {r : Int} (hG : Glob w0) (h : slices_IndexFunc_W_Piece_W_Piece p1 p4 = some r) (f3 : kW_Piece.sl K v2 p1) (hf6 : FnD Tryd.prog w0 q5 (fun (x : W_Piece) => Value.agg #[strV (x.f_Var), strV (x.f_Lit)]) (fun (r : Bool) => Value.bool (r)) p4) (hM : Sat w0 w K (L)) :
    Calls Tryd.prog 44 #[v2, q5] w (fun e w' => ∃ (K' : Hp), Hp.le K K' ∧ Sat w0 w' K' (L) ∧ e = .returned (Value.int .i64 (r))) := by
  refine enter_ (n := 19) (args := [v2, q5]) Tryd.func44 rfl rfl (Nat.le_of_ble_eq_true rfl) fun a hS => ?_
  replace hS : Slots 19 [] a [(0, v2), (1, q5)] := hS
  unfold slices_IndexFunc_W_Piece_W_Piece at h
  refine wp_seq ?_
  refine wp_region_lit ?_
  refine st_val hS rfl rfl (by decide) (r_assign rfl (hS.ev_ rfl)) fun a hS => ?_
  refine st_done ?_
  replace hS : Slots 19 [] a [(4, Value.int .i64 (0)), (0, v2), (1, q5)] := (hS.part (.cons rfl (.cons rfl (.cons rfl (.nil _)))))
  refine x_then ?_
  refine wp_seq ?_
  refine wp_seq ?_
  refine wp_region_lit ?_
  refine st_val hS rfl rfl (by decide) (r_move rfl (hS.ev_ rfl)) fun a hS => ?_
  refine st_val hS rfl rfl (by decide) (r_len_sl rfl un_22 (hS.ev_ rfl) f3) fun a hS => ?_
  refine st_val hS rfl rfl (by decide) (r_move rfl (hS.ev_ rfl)) fun a hS => ?_
  refine st_done ?_
  replace hS : Slots 19 [] a [(8, Value.int .i64 (0)), (7, Value.int .i64 ((p1.length : Int))), (4, Value.int .i64 (0)), (0, v2), (1, q5)] := (hS.part (.cons rfl (.cons rfl (.cons rfl (.cons rfl (.cons rfl (.nil _)))))))
  refine x_then ?_
  refine wp_block ?_
  obtain ⟨o12, h13, h⟩ := bindO h
  refine c_loop_ways (fun e a w => (e = .exit 0 ∧ ∃ (K14 : Hp) (x15 : Unit), Hp.le K K14 ∧ o12 = Sum.inl x15 ∧ Slots 19 [] a [(4, Value.int .i64 (0))] ∧ Sat w0 w K14 (L)) ∨ (e = .ret ∧ ∃ (K16 : Hp) (x17 : Int), Hp.le K K16 ∧ o12 = Sum.inr x17 ∧ Slots 19 [] a [(4, Value.int .i64 (x17))] ∧ Sat w0 w K16 (L))) ?_ ?_
  · intro c Q hc hQ
    have key : ∀ (x11 : Int) (r' : Sum Unit Int), slices_IndexFunc_W_Piece_W_Piece_l1 p1 p4 x11 = some r' → r' = o12 → ∀ (K10 : Hp) (a : Act) (w : World), Hp.le K K10 → Slots 19 [] a [(8, Value.int .i64 (x11)), (7, Value.int .i64 ((p1.length : Int))), (4, Value.int .i64 (0)), (0, v2), (1, q5)] → Sat w0 w K10 (L) → Rnd Tryd.prog c Q a w := by
      refine slices_IndexFunc_W_Piece_W_Piece_l1.partial_correctness p1 p4 _ ?_
      intro slices_IndexFunc_W_Piece_W_Piece_l1_rec ih x11 r' h hr K10  a w hlK10 hS hM 
      subst hc
      refine c_round ?_
      refine wp_seq ?_
      refine wp_region_lit ?_
      refine st_val hS rfl rfl (by decide) (r_cmp rfl (hS.ev_ rfl) (hS.ev_ rfl) rfl) fun a hS => ?_
      refine st_done ?_
      replace hS : Slots 19 [] a [(9, Value.bool (decide (x11 < ((p1.length : Int))))), (8, Value.int .i64 (x11)), (7, Value.int .i64 ((p1.length : Int))), (4, Value.int .i64 (0)), (0, v2), (1, q5)] := (hS.part (.cons rfl (.cons rfl (.cons rfl (.cons rfl (.cons rfl (.cons rfl (.nil _))))))))
      refine x_then ?_
      refine wp_seq ?_
      rcases ifB h with ⟨hc18, h⟩ | ⟨hc18, h⟩
      · refine c_cond_true (hS.ev_ rfl) hc18 ?_
        refine wp_skip ?_
        refine x_then ?_
        refine wp_seq ?_
        refine wp_block ?_
        refine wp_seq ?_
        refine wp_region_lit ?_
        refine st_val hS rfl rfl (by decide) (r_move rfl (hS.ev_ rfl)) fun a hS => ?_
        refine st_val hS rfl rfl (by decide) (r_assign rfl (hS.ev_ rfl)) fun a hS => ?_
        refine st_done ?_
        replace hS : Slots 19 [] a [(5, Value.int .i64 (x11)), (8, Value.int .i64 (x11)), (7, Value.int .i64 ((p1.length : Int))), (4, Value.int .i64 (0)), (0, v2), (1, q5)] := (hS.part (.cons rfl (.cons rfl (.cons rfl (.cons rfl (.cons rfl (.cons rfl (.nil _))))))))
        refine x_then ?_
        refine wp_seq ?_
        refine wp_region_lit ?_
        refine st_val hS rfl rfl (by decide) (r_move rfl (hS.ev_ rfl)) fun a hS => ?_
        refine st_val hS rfl rfl (by decide) (r_move rfl (hS.ev_ rfl)) fun a hS => ?_
        refine st_val hS rfl rfl (by decide) (r_move rfl (hS.ev_ rfl)) fun a hS => ?_
        obtain ⟨e19, h20, h⟩ := bindO h
        obtain ⟨ad21, cp22, cs23, hv24, hr25, h0_26, h1_27, hq28⟩ := sl_at f3 h20 (by decide)
        obtain rfl := kW_Piece_open hr25
        refine st_val hS rfl rfl (by decide) (r_idx_sl rfl un_22 ti_46 (hS.ev_ rfl) hv24 (hS.ev_ rfl) h0_26 h1_27) fun a hS => ?_
        refine st_val hS rfl rfl (by decide) (r_ldN_k (cs' := [strV (e19.f_Var), strV (e19.f_Lit)]) rfl ag_46 ti_46 (hS.ev_ rfl) hq28 rfl (Rd.up hlK10 hM.nil_)) fun a hS => ?_
        obtain ⟨y29, h30, h⟩ := bindO h
        obtain ⟨fi31, fn32, fc33, f1_34, f2_35, hv36, hf37, hn38, hb39, hc40⟩ := hf6
        refine wl_cons rfl (e_callv rfl ((hS.ev_ rfl).trans hv36) hf37 hn38 hb39 (args1 (hS.ev_ rfl)) (hc40 h30 hM) ?_)
        rintro _ w ⟨K41, hlK41, hM, rfl⟩
        refine ⟨_, rfl, ?_⟩
        refine pl hS rfl (by decide) fun a hS => ?_
        refine st_done ?_
        replace hS : Slots 19 [] a [(16, Value.bool (y29)), (5, Value.int .i64 (x11)), (8, Value.int .i64 (x11)), (7, Value.int .i64 ((p1.length : Int))), (4, Value.int .i64 (0)), (0, v2), (1, q5)] := (hS.part (.cons rfl (.cons rfl (.cons rfl (.cons rfl (.cons rfl (.cons rfl (.cons rfl (.nil _)))))))))
        refine x_then ?_
        rcases ifB h with ⟨hc42, h⟩ | ⟨hc42, h⟩
        · refine c_cond_true (hS.ev_ rfl) hc42 ?_
          refine wp_seq ?_
          refine wp_region_lit ?_
          refine st_val hS rfl rfl (by decide) (r_move rfl (hS.ev_ rfl)) fun a hS => ?_
          refine st_val hS rfl rfl (by decide) (r_assign rfl (hS.ev_ rfl)) fun a hS => ?_
          refine st_done ?_
          replace hS : Slots 19 [] a [(4, Value.int .i64 (x11)), (8, Value.int .i64 (x11)), (7, Value.int .i64 ((p1.length : Int))), (0, v2), (1, q5)] := (hS.part (.cons rfl (.cons rfl (.cons rfl (.cons rfl (.cons rfl (.nil _)))))))
          refine x_then ?_
          refine wp_ret ?_
          refine x_block_ret ?_
          refine x_then_ret ?_
          refine x_then_ret ?_
          have ho' := (Option.some.inj h).trans hr
          refine hQ _ _ _ ?_
          exact .inr (⟨rfl, K41, x11, (hlK10.trans hlK41), ho'.symm, (hS.part (.cons rfl (.nil _))), hM⟩)
        · refine c_cond_false (hS.ev_ rfl) hc42 ?_
          refine wp_skip ?_
          refine x_block ?_
          refine x_then ?_
          refine wp_region_lit ?_
          refine st_val hS rfl rfl (by decide) (r_add rfl (hS.ev_ rfl) (hS.ev_ rfl)) fun a hS => ?_
          refine st_val hS rfl rfl (by decide) (r_move rfl (hS.ev_ rfl)) fun a hS => ?_
          refine st_done ?_
          replace hS : Slots 19 [] a [(8, Value.int .i64 (w64 (x11 + 1))), (7, Value.int .i64 ((p1.length : Int))), (4, Value.int .i64 (0)), (0, v2), (1, q5)] := (hS.part (.cons rfl (.cons rfl (.cons rfl (.cons rfl (.cons rfl (.nil _)))))))
          refine x_then ?_
          exact ih (w64 (x11 + 1)) _ h hr K41 _ _ (hlK10.trans hlK41) (hS.part (.cons rfl (.cons rfl (.cons rfl (.cons rfl (.cons rfl (.nil _))))))) (hM)
      · refine c_cond_false (hS.ev_ rfl) hc18 ?_
        refine wp_exit ?_
        refine x_then_exit ?_
        refine x_then_exit ?_
        have ho' := (Option.some.inj h).trans hr
        refine hQ _ _ _ ?_
        exact .inl ⟨rfl, K10, (()), hlK10, ho'.symm, (hS.part (.cons rfl (.nil _))), hM⟩
    exact key 0 _ h13 rfl K _ _ (Hp.le.refl _) (hS.part (.cons rfl (.cons rfl (.cons rfl (.cons rfl (.cons rfl (.nil _))))))) (hM)
  · rintro e a w (⟨rfl, K14, x15, hlK14, ho', hS, hM⟩ | ⟨rfl, K16, x17, hlK16, ho', hS, hM⟩)
    · subst ho'
      dsimp only at h
      refine x_block_here ?_
      refine x_then ?_
      refine wp_seq ?_
      refine wp_region_lit ?_
      refine st_val hS rfl rfl (by decide) (r_assign rfl (hS.ev_ rfl)) fun a hS => ?_
      refine st_done ?_
      replace hS : Slots 19 [] a [(4, Value.int .i64 ((-1)))] := (hS.part (.cons rfl (.nil _)))
      refine x_then ?_
      refine wp_ret ?_
      have hr' := Option.some.inj h
      subst hr'
      refine ret1 (.inr rfl) hS rfl rfl ?_
      exact ⟨K14, hlK14, hM, rfl⟩
    · subst ho'
      dsimp only at h
      refine x_block_ret ?_
      refine x_then_ret ?_
      have hr' := Option.some.inj h
      subst hr'
      refine ret1 (.inr rfl) hS rfl rfl ?_
      exact ⟨K16, hlK16, hM, rfl⟩

theorem slices_ContainsFunc_W_Piece_W_Piece_c {w0 w : World} {K : Hp} {L : List SP} {p1 : List W_Piece} {p4 : W_Piece → Option Bool} {v2 : Value} {q5 : Value} {r : Bool} (hG : Glob w0) (h : slices_ContainsFunc_W_Piece_W_Piece p1 p4 = some r) (f3 : kW_Piece.sl K v2 p1) (hf6 : FnD Tryd.prog w0 q5 (fun (x : W_Piece) => Value.agg #[strV (x.f_Var), strV (x.f_Lit)]) (fun (r : Bool) => Value.bool (r)) p4) (hM : Sat w0 w K (L)) :
    Calls Tryd.prog 33 #[v2, q5] w (fun e w' => ∃ (K' : Hp), Hp.le K K' ∧ Sat w0 w' K' (L) ∧ e = .returned (Value.bool (r))) := by
  refine enter_ (n := 9) (args := [v2, q5]) Tryd.func33 rfl rfl (Nat.le_of_ble_eq_true rfl) fun a hS => ?_
  replace hS : Slots 9 [] a [(0, v2), (1, q5)] := hS
  unfold slices_ContainsFunc_W_Piece_W_Piece at h
  refine wp_seq ?_
  refine wp_region_lit ?_
  refine st_val hS rfl rfl (by decide) (r_assign rfl (hS.ev_ rfl)) fun a hS => ?_
  refine st_done ?_
  replace hS : Slots 9 [] a [(4, Value.bool (false)), (0, v2), (1, q5)] := (hS.part (.cons rfl (.cons rfl (.cons rfl (.nil _)))))
  refine x_then ?_
  refine wp_seq ?_
  refine wp_region_lit ?_
  refine st_val hS rfl rfl (by decide) (r_move rfl (hS.ev_ rfl)) fun a hS => ?_
  refine st_val hS rfl rfl (by decide) (r_move rfl (hS.ev_ rfl)) fun a hS => ?_
  obtain ⟨y7, h8, h⟩ := bindO h
  have hc10 := slices_IndexFunc_W_Piece_W_Piece_c hG h8 f3 hf6 hM
  refine wl_cons rfl (e_call rfl Tryd.func44 rfl rfl (args2 (hS.ev_ rfl) (hS.ev_ rfl)) hc10 ?_)
  rintro _ w ⟨K9, hlK9, hM, rfl⟩
  refine ⟨_, rfl, ?_⟩
  refine pl hS rfl (by decide) fun a hS => ?_
  refine st_val hS rfl rfl (by decide) (r_cmp rfl (hS.ev_ rfl) (hS.ev_ rfl) rfl) fun a hS => ?_
  refine st_val hS rfl rfl (by decide) (r_assign rfl (hS.ev_ rfl)) fun a hS => ?_
  refine st_done ?_
  replace hS : Slots 9 [] a [(4, Value.bool (decide (y7 ≥ 0)))] := (hS.part (.cons rfl (.nil _)))
  refine x_then ?_
  refine wp_ret ?_
  have hr' := Option.some.inj h
  subst hr'
  refine ret1 (.inr rfl) hS rfl rfl ?_
  exact ⟨K9, hlK9, hM, rfl⟩

theorem W_fits_1_c {w0 w : World} {K : Hp} {L : List SP} {p1 : W_Piece} {r : Bool} (hG : Glob w0) (h : W_fits_1 p1 = some r) (hM : Sat w0 w K (L)) :
    Calls Tryd.prog 34 #[Value.agg #[strV (p1.f_Var), strV (p1.f_Lit)]] w (fun e w' => ∃ (K' : Hp), Hp.le K K' ∧ Sat w0 w' K' (L) ∧ e = .returned (Value.bool (r))) := by
  refine enter_ (n := 7) (args := [Value.agg #[strV (p1.f_Var), strV (p1.f_Lit)]]) Tryd.func34 rfl rfl (Nat.le_of_ble_eq_true rfl) fun a hS => ?_
  replace hS : Slots 7 [] a [(0, Value.agg #[strV (p1.f_Var), strV (p1.f_Lit)])] := hS
  unfold W_fits_1 at h
  refine wp_seq ?_
  refine wp_region_lit ?_
  refine wl_cons rfl (e_box (cs := [strV (p1.f_Var), strV (p1.f_Lit)]) hM rfl (hS.ev_ rfl) rfl fun g2 w hM => ?_)
  refine pl hS rfl (by decide) fun a hS => ?_
  refine st_val hS rfl rfl (by decide) (r_assign rfl (hS.ev_ rfl)) fun a hS => ?_
  refine st_done ?_
  replace hS : Slots 7 [] a [(2, Value.bool (false)), (1, Value.pointer (some ⟨g2, 0, none⟩))] := (hS.part (.cons rfl (.cons rfl (.nil _))))
  refine x_then ?_
  refine wp_seq ?_
  refine wp_region_lit ?_
  refine st_val hS rfl rfl (by decide) (r_fld_b rfl fo_46_1 (hS.ev_ rfl)) fun a hS => ?_
  refine st_val hS rfl rfl (by decide) (r_ld1_b rfl ag_9 (hS.ev_ rfl) rfl (Rd.of hM)) fun a hS => ?_
  refine st_val hS rfl rfl (by decide) (r_len_str rfl un_9 (hS.ev_ rfl)) fun a hS => ?_
  refine st_val hS rfl rfl (by decide) (r_cmp rfl (hS.ev_ rfl) (hS.ev_ rfl) rfl) fun a hS => ?_
  refine st_val hS rfl rfl (by decide) (r_assign rfl (hS.ev_ rfl)) fun a hS => ?_
  refine st_done ?_
  replace hS : Slots 7 [] a [(2, Value.bool (decide (((p1.f_Lit.length : Int)) > 400)))] := (hS.part (.cons rfl (.nil _)))
  refine x_then ?_
  refine wp_ret ?_
  have hr' := Option.some.inj h
  subst hr'
  refine ret1 (.inr rfl) hS rfl rfl ?_
  exact ⟨K, (Hp.le.refl _), (hM).tail, rfl⟩

theorem W_fits_c {w0 w : World} {K : Hp} {L : List SP} {p1 : List W_Piece} {v2 : Value} {r : Bool} (hG : Glob w0) (h : W_fits p1 = some r) (f3 : kW_Piece.sl K v2 p1) (hM : Sat w0 w K (L)) :
    Calls Tryd.prog 20 #[v2] w (fun e w' => ∃ (K' : Hp), Hp.le K K' ∧ Sat w0 w' K' (L) ∧ e = .returned (Value.bool (r))) := by
  refine enter_ (n := 11) (args := [v2]) Tryd.func20 rfl rfl (Nat.le_of_ble_eq_true rfl) fun a hS => ?_
  replace hS : Slots 11 [] a [(0, v2)] := hS
  unfold W_fits at h
  refine wp_seq ?_
  refine wp_region_lit ?_
  refine st_val hS rfl rfl (by decide) (r_assign rfl (hS.ev_ rfl)) fun a hS => ?_
  refine st_done ?_
  replace hS : Slots 11 [] a [(2, Value.bool (false)), (0, v2)] := (hS.part (.cons rfl (.cons rfl (.nil _))))
  refine x_then ?_
  refine wp_seq ?_
  refine wp_region_lit ?_
  refine st_val hS rfl rfl (by decide) (r_move rfl (hS.ev_ rfl)) fun a hS => ?_
  refine st_val hS rfl rfl (by decide) (r_len_sl rfl un_22 (hS.ev_ rfl) f3) fun a hS => ?_
  refine st_val hS rfl rfl (by decide) (r_cmp rfl (hS.ev_ rfl) (hS.ev_ rfl) rfl) fun a hS => ?_
  refine st_val hS rfl rfl (by decide) (r_move rfl (hS.ev_ rfl)) fun a hS => ?_
  obtain ⟨x5, h6, h⟩ := bindO h
  refine wl_cut 4 (fun a w => ∃ (K4 : Hp), Hp.le K K4 ∧ Slots 11 [] a [(2, Value.bool (false)), (10, Value.bool (x5))] ∧ Sat w0 w K4 (L)) ?_ ?_
  ·
    skip
    rcases ifB h6 with ⟨hc7, h6⟩ | ⟨hc7, h6⟩
    ·
      replace hS := hS.known (k := 6) rfl hc7
      refine st_want hS rfl rfl rfl rfl rfl (by decide) (r_move rfl (hS.ev_ rfl)) fun a hS => ?_
      obtain ⟨y8, h9, h6⟩ := bindO h6
      have hc11 := slices_ContainsFunc_W_Piece_W_Piece_c hG h9 f3 ⟨34, _, _, #[], #[], rfl, Tryd.func34, rfl, rfl, fun h hM => by simpa only [Array.empty_append, Array.append_empty] using W_fits_1_c hG h hM⟩ hM
      refine g_want hS rfl rfl rfl rfl (e_call rfl Tryd.func33 rfl rfl (args2 (hS.ev_ rfl) (hS.ev_ rfl)) hc11 ?_)
      rintro _ w ⟨K10, hlK10, hM, rfl⟩
      refine ⟨_, rfl, ?_⟩
      refine pl hS rfl (by decide) fun a hS => ?_
      refine st_want hS rfl rfl rfl rfl rfl (by decide) (r_not rfl (hS.ev_ rfl)) fun a hS => ?_
      refine st_val hS rfl rfl (by decide) (r_pick_true rfl (hS.ev_ rfl) rfl (hS.ev_ rfl)) fun a hS => ?_
      refine st_done ?_
      replace hS : Slots 11 [] a [(10, Value.bool (!y8)), (2, Value.bool (false))] := (hS.part (.cons rfl (.cons rfl (.nil _))))
      refine x_then ?_
      obtain rfl := Option.some.inj h6
      exact ⟨K10, hlK10, (hS.part (.cons rfl (.cons rfl (.nil _)))), hM⟩
    ·
      replace hS := hS.known (k := 6) rfl hc7
      refine st_off hS rfl rfl rfl rfl rfl rfl (by decide) fun a hS => ?_
      refine st_off hS rfl rfl rfl rfl rfl rfl (by decide) fun a hS => ?_
      refine st_off hS rfl rfl rfl rfl rfl rfl (by decide) fun a hS => ?_
      refine st_val hS rfl rfl (by decide) (r_pick_false rfl (hS.ev_ rfl) rfl (hS.ev_ rfl)) fun a hS => ?_
      refine st_done ?_
      replace hS : Slots 11 [] a [(10, Value.bool (false)), (2, Value.bool (false))] := (hS.part (.cons rfl (.cons rfl (.nil _))))
      refine x_then ?_
      obtain rfl := Option.some.inj h6
      exact ⟨K, (Hp.le.refl _), (hS.part (.cons rfl (.cons rfl (.nil _)))), hM⟩
  · rintro a w ⟨K4, hlK4, hS, hM⟩
    refine st_val hS rfl rfl (by decide) (r_assign rfl (hS.ev_ rfl)) fun a hS => ?_
    refine st_done ?_
    replace hS : Slots 11 [] a [(2, Value.bool (x5))] := (hS.part (.cons rfl (.nil _)))
    refine x_then ?_
    refine wp_ret ?_
    have hr' := Option.some.inj h
    subst hr'
    refine ret1 (.inr rfl) hS rfl rfl ?_
    exact ⟨K4, hlK4, hM, rfl⟩

theorem W_reader_text_c {w0 w : World} {K : Hp} {L : List SP} {p1 : W_reader} {g2 : Nat} {r : W_Token × (Option Nat) × W_reader} (hG : Glob w0) (h : W_reader_text p1 = some r) (hM : Sat w0 w K (SP.blk g2 62 [strV (p1.f_s), Value.int .i64 (p1.f_at)] :: L)) :
    Calls Tryd.prog 42 #[Value.pointer (some ⟨g2, 0, none⟩)] w (fun e w' => ∃ (K' : Hp) (v'1 : Value), Hp.le K K' ∧ Sat w0 w' K' (SP.blk g2 62 [strV (r.2.2.f_s), Value.int .i64 (r.2.2.f_at)] :: L) ∧ e = .returned (Value.tuple #[Value.agg #[Value.int .i64 (r.1.f_Kind), strV (r.1.f_Text), Value.int .i64 (r.1.f_Number), v'1, Value.int .i64 (r.1.f_At)], eV w0 r.2.1]) ∧ kW_Piece.sl K' v'1 r.1.f_Pieces) := by
  refine enter_ (n := 55) (args := [Value.pointer (some ⟨g2, 0, none⟩)]) Tryd.func42 rfl rfl (Nat.le_of_ble_eq_true rfl) fun a hS => ?_
  replace hS : Slots 55 [] a [(0, Value.pointer (some ⟨g2, 0, none⟩))] := hS
  unfold W_reader_text at h
  refine wp_seq ?_
  refine wp_region_lit ?_
  refine wl_cons rfl (e_alloc (cs := [Value.int .i64 (0), strV (([] : List UInt8)), Value.int .i64 (0), Value.slice none 0 0, Value.int .i64 (0)]) hM rfl ti_24 rfl fun g3 w hM => ?_)
  refine pl hS rfl (by decide) fun a hS => ?_
  refine st_val hS rfl rfl (by decide) (r_assign rfl (hS.ev_ rfl)) fun a hS => ?_
  refine st_done ?_
  replace hS : Slots 55 [] a [(3, eV w0 ((none : Option Nat))), (2, Value.pointer (some ⟨g3, 0, none⟩)), (0, Value.pointer (some ⟨g2, 0, none⟩))] := (hS.part (.cons rfl (.cons rfl (.cons rfl (.nil _)))))
  refine x_then ?_
  refine c_scope ?_
  refine c_scp_seq ?_
  refine wp_region_lit ?_
  refine st_val hS rfl rfl (by decide) (r_assign rfl (hS.ev_ rfl)) fun a hS => ?_
  replace hM := hM.row_nil kW_Piece 46
  refine st_done ?_
  replace hS : Slots 55 [] a [(4, (Value.slice none 0 0)), (3, eV w0 ((none : Option Nat))), (2, Value.pointer (some ⟨g3, 0, none⟩)), (0, Value.pointer (some ⟨g2, 0, none⟩))] := (hS.part (.cons rfl (.cons rfl (.cons rfl (.cons rfl (.nil _))))))
  refine x_then ?_
  refine c_scp_seq ?_
  refine wp_region_lit ?_
  refine st_val hS rfl rfl (by decide) (r_assign rfl (hS.ev_ rfl)) fun a hS => ?_
  refine st_done ?_
  replace hS : Slots 55 [] a [(4, (Value.slice none 0 0)), (3, eV w0 ((none : Option Nat))), (2, Value.pointer (some ⟨g3, 0, none⟩)), (0, Value.pointer (some ⟨g2, 0, none⟩))] := (hS.part (.cons rfl (.cons rfl (.cons rfl (.cons rfl (.nil _))))))
  refine x_then ?_
  refine c_scp_seq ?_
  refine wp_region_lit ?_
  refine st_val hS rfl rfl (by decide) (r_move rfl (hS.ev_ rfl)) fun a hS => ?_
  refine st_val hS rfl rfl (by decide) (r_nilCheck rfl (hS.ev_ rfl)) fun a hS => ?_
  refine st_val hS rfl rfl (by decide) (r_fld_b rfl fo_62_1 (hS.ev_ rfl)) fun a hS => ?_
  replace hM := hM.pull 2 rfl rfl
  refine st_val hS rfl rfl (by decide) (r_ld1_b rfl ag_3 (hS.ev_ rfl) rfl (Rd.of hM)) fun a hS => ?_
  refine st_val hS rfl rfl (by decide) (r_add rfl (hS.ev_ rfl) (hS.ev_ rfl)) fun a hS => ?_
  refine st_val hS rfl rfl (by decide) (r_nilCheck rfl (hS.ev_ rfl)) fun a hS => ?_
  refine st_val hS rfl rfl (by decide) (r_fld_b rfl fo_62_1 (hS.ev_ rfl)) fun a hS => ?_
  refine wl_cons rfl (e_store1 hM rfl ti_3 (hS.ev_ rfl) (hS.ev_ rfl) rfl (Nat.lt_of_lt_of_le (Nat.le_of_ble_eq_true rfl) (Nat.le_refl _)) fun w hM => ?_)
  have hM : Sat w0 w K (SP.blk g2 62 [strV (p1.f_s), Value.int .i64 (w64 (p1.f_at + 1))] :: SP.row kW_Piece 46 ((Value.slice none 0 0)) (([] : List W_Piece)) :: SP.blk g3 24 [Value.int .i64 (0), strV (([] : List UInt8)), Value.int .i64 (0), Value.slice none 0 0, Value.int .i64 (0)] :: L) := hM
  refine pl0 hS rfl fun a hS => ?_
  refine st_done ?_
  replace hS : Slots 55 [] a [(4, (Value.slice none 0 0)), (3, eV w0 ((none : Option Nat))), (2, Value.pointer (some ⟨g3, 0, none⟩)), (0, Value.pointer (some ⟨g2, 0, none⟩))] := (hS.part (.cons rfl (.cons rfl (.cons rfl (.cons rfl (.nil _))))))
  refine x_then ?_
  obtain ⟨o17, h18, h⟩ := bindO h
  refine c_scp_ways (fun e a w => (e = .ret ∧ ∃ (K19 : Hp) (v20 : Value), Hp.le K K19 ∧ Slots 55 [] a [(2, Value.pointer (some ⟨g3, 0, none⟩)), (3, eV w0 o17.1)] ∧ Sat w0 w K19 (SP.blk g2 62 [strV (o17.2.1), Value.int .i64 (o17.2.2.1)] :: SP.blk g3 24 [Value.int .i64 (o17.2.2.2.1), strV (([] : List UInt8)), Value.int .i64 (0), v20, Value.int .i64 (0)] :: L) ∧ kW_Piece.sl K19 v20 o17.2.2.2.2)) ?_ ?_
  · intro S c Q hs hc hQ
    have key : ∀ (x13 : List UInt8) (x14 : Int) (x15 : List W_Piece) (r' : (Option Nat) × (List UInt8) × Int × Int × (List W_Piece)), W_reader_text_l1 x13 x14 x15 = some r' → r' = o17 → ∀ (K12 : Hp) (v16 : Value) (a : Act) (w : World), Hp.le K K12 → Slots 55 [] a [(3, eV w0 ((none : Option Nat))), (2, Value.pointer (some ⟨g3, 0, none⟩)), (0, Value.pointer (some ⟨g2, 0, none⟩)), (4, v16)] → Sat w0 w K12 (SP.blk g2 62 [strV (x13), Value.int .i64 (x14)] :: SP.row kW_Piece 46 v16 x15 :: SP.blk g3 24 [Value.int .i64 (0), strV (([] : List UInt8)), Value.int .i64 (0), Value.slice none 0 0, Value.int .i64 (0)] :: L) → Scp Tryd.prog S c Q a w := by
      refine W_reader_text_l1.partial_correctness _ ?_
      intro W_reader_text_l1_rec ih x13 x14 x15 r' h hr K12 v16 a w hlK12 hS hM 
      subst hc; subst hs
      refine c_scp ?_
      refine wp_seq ?_
      refine wp_block ?_
      refine wp_seq ?_
      refine wp_region_lit ?_
      refine st_val hS rfl rfl (by decide) (r_move rfl (hS.ev_ rfl)) fun a hS => ?_
      obtain ⟨y22, h23, h⟩ := bindO h
      have hc25 := W_reader_ends_c hG h23 hM
      refine wl_cons rfl (e_call rfl Tryd.func29 rfl rfl (args1 (hS.ev_ rfl)) hc25 ?_)
      rintro _ w ⟨K24, hlK24, hM, rfl⟩
      refine ⟨_, rfl, ?_⟩
      refine pl hS rfl (by decide) fun a hS => ?_
      refine st_val hS rfl rfl (by decide) (r_assign rfl (hS.ev_ rfl)) fun a hS => ?_
      refine st_done ?_
      replace hS : Slots 55 [] a [(13, Value.bool (y22.1)), (3, eV w0 ((none : Option Nat))), (2, Value.pointer (some ⟨g3, 0, none⟩)), (0, Value.pointer (some ⟨g2, 0, none⟩)), (4, v16)] := (hS.part (.cons rfl (.cons rfl (.cons rfl (.cons rfl (.cons rfl (.nil _)))))))
      refine x_then ?_
      rcases ifB h with ⟨hc26, h⟩ | ⟨hc26, h⟩
      · refine c_cond_true (hS.ev_ rfl) hc26 ?_
        refine wp_seq ?_
        refine tk_start #[false, false, false, false] mixed_ rfl rfl ?_
        replace hM := hM.drew
        generalize w.drew = w at hM ⊢
        refine dk_any (i := 0) #[true, false, false, false] hS rfl (by kernel_rfl) rfl rfl (by decide) (fun w => r_build (cs := [Value.int .i64 (0), strV (([] : List UInt8)), Value.int .i64 (0), Value.slice none 0 0, Value.int .i64 (0)]) rfl (parts_ev hS rfl) (by kernel_rfl)) fun a hS => ?_
        refine dk_val (i := 1) (S := Rd w0 K24 []) #[true, true, false, false] hS rfl (by kernel_rfl) rfl rfl (by decide) (Rd.up (Hp.le.refl _) hM.nil_) (fun w hR => r_ldG rfl ag_41 (hS.ev_ rfl) (hG 2 (by decide)) hR) fun a hS => ?_
        replace hM := hM.pull 2 rfl rfl
        refine dk_one (i := 2) #[true, true, true, false] rfl (by kernel_rfl) rfl (e_storeN (vs := [Value.int .i64 (0), strV (([] : List UInt8)), Value.int .i64 (0), Value.slice none 0 0, Value.int .i64 (0)]) hM rfl ti_24 (hS.ev_ rfl) (hS.ev_ rfl) (ones_cons rfl (ones_cons rfl (ones_cons rfl (ones_cons rfl (ones_cons rfl ones_nil))))) (Nat.le_of_ble_eq_true rfl) fun w hM => ?_)
        have hM : Sat w0 w K24 (SP.blk g3 24 [Value.int .i64 (0), strV (([] : List UInt8)), Value.int .i64 (0), Value.slice none 0 0, Value.int .i64 (0)] :: SP.blk g2 62 [strV (y22.2.f_s), Value.int .i64 (y22.2.f_at)] :: SP.row kW_Piece 46 v16 x15 :: L) := hM
        refine pT0 hS rfl (Dem.keep (fun _ => Rd.up (Hp.le.refl _) hM.nil_) Dem.nil) fun a hS => ?_
        refine dk_any (i := 3) #[true, true, true, true] hS rfl (by kernel_rfl) rfl rfl (by decide) (fun w => r_assign rfl (hS.ev_ rfl)) fun a hS => ?_
        refine tk_done (by kernel_rfl) ?_
        replace hS : Slots 55 [] a [(3, eV w0 ((some 2 : Option Nat))), (2, Value.pointer (some ⟨g3, 0, none⟩)), (0, Value.pointer (some ⟨g2, 0, none⟩)), (4, v16)] := (hS.part (.cons rfl (.cons rfl (.cons rfl (.cons rfl (.nil _))))))
        refine x_then ?_
        refine wp_ret ?_
        refine x_block_ret ?_
        refine x_then_ret ?_
        refine x_scope_ret ?_
        have ho' := (Option.some.inj h).trans hr
        refine hQ _ _ _ ?_
        subst ho'
        exact ⟨rfl, K24, (Value.slice none 0 0), (hlK12.trans hlK24), (hS.part (.cons rfl (.cons rfl (.nil _)))), ((hM.pull 2 rfl rfl).tail.pull 1 rfl rfl), (Kd.sl_nil _ _)⟩
      · refine c_cond_false (hS.ev_ rfl) hc26 ?_
        refine wp_seq ?_
        refine tk_start #[false, false, false, false, false, false, false, false, false, false, false] mixed_ rfl rfl ?_
        replace hM := hM.drew
        generalize w.drew = w at hM ⊢
        refine dk_any (i := 0) #[true, false, false, false, false, false, false, false, false, false, false] hS rfl (by kernel_rfl) rfl rfl (by decide) (fun w => r_move rfl (hS.ev_ rfl)) fun a hS => ?_
        refine dk_any (i := 1) #[true, true, false, false, false, false, false, false, false, false, false] hS rfl (by kernel_rfl) rfl rfl (by decide) (fun w => r_nilCheck rfl (hS.ev_ rfl)) fun a hS => ?_
        refine dk_any (i := 2) #[true, true, true, false, false, false, false, false, false, false, false] hS rfl (by kernel_rfl) rfl rfl (by decide) (fun w => r_fld_b rfl fo_62_0 (hS.ev_ rfl)) fun a hS => ?_
        refine dk_val (i := 3) (S := Rd w0 K24 [SP.blk g2 62 [strV (y22.2.f_s), Value.int .i64 (y22.2.f_at)]]) #[true, true, true, true, false, false, false, false, false, false, false] hS rfl (by kernel_rfl) rfl rfl (by decide) (Rd.of hM.only) (fun w hR => r_ld1_b rfl ag_9 (hS.ev_ rfl) rfl hR) fun a hS => ?_
        refine dk_any (i := 4) #[true, true, true, true, true, false, false, false, false, false, false] hS rfl (by kernel_rfl) rfl rfl (by decide) (fun w => r_move rfl (hS.ev_ rfl)) fun a hS => ?_
        refine dk_any (i := 5) #[true, true, true, true, true, true, false, false, false, false, false] hS rfl (by kernel_rfl) rfl rfl (by decide) (fun w => r_nilCheck rfl (hS.ev_ rfl)) fun a hS => ?_
        refine dk_any (i := 6) #[true, true, true, true, true, true, true, false, false, false, false] hS rfl (by kernel_rfl) rfl rfl (by decide) (fun w => r_fld_b rfl fo_62_1 (hS.ev_ rfl)) fun a hS => ?_
        refine dk_val (i := 7) (S := Rd w0 K24 [SP.blk g2 62 [strV (y22.2.f_s), Value.int .i64 (y22.2.f_at)]]) #[true, true, true, true, true, true, true, true, false, false, false] hS rfl (by kernel_rfl) rfl rfl (by decide) (Rd.of hM.only) (fun w hR => r_ld1_b rfl ag_3 (hS.ev_ rfl) rfl hR) fun a hS => ?_
        obtain ⟨c27, h28, h⟩ := bindO h
        refine dk_any (i := 8) #[true, true, true, true, true, true, true, true, true, false, false] hS rfl (by kernel_rfl) rfl rfl (by decide) (fun w => r_index_s rfl un_9 (hS.ev_ rfl) (hS.ev_ rfl) h28) fun a hS => ?_
        refine dk_any (i := 9) #[true, true, true, true, true, true, true, true, true, true, false] hS rfl (by kernel_rfl) rfl rfl (by decide) (fun w => r_cmp8 rfl (hS.ev_ rfl) (hS.ev_ (v := Value.int .u8 (b8 (34))) rfl) rfl) fun a hS => ?_
        refine dk_any (i := 10) #[true, true, true, true, true, true, true, true, true, true, true] hS rfl (by kernel_rfl) rfl rfl (by decide) (fun w => r_assign rfl (hS.ev_ rfl)) fun a hS => ?_
        refine tk_done (by kernel_rfl) ?_
        replace hS : Slots 55 [] a [(18, Value.bool (c27 == 34)), (3, eV w0 ((none : Option Nat))), (2, Value.pointer (some ⟨g3, 0, none⟩)), (0, Value.pointer (some ⟨g2, 0, none⟩)), (4, v16)] := (hS.part (.cons rfl (.cons rfl (.cons rfl (.cons rfl (.cons rfl (.nil _)))))))
        refine x_then ?_
        rcases ifB h with ⟨hc29, h⟩ | ⟨hc29, h⟩
        · refine c_cond_true (hS.ev_ rfl) hc29 ?_
          refine wp_seq ?_
          refine wp_region_lit ?_
          refine st_val hS rfl rfl (by decide) (r_move rfl (hS.ev_ rfl)) fun a hS => ?_
          refine st_val hS rfl rfl (by decide) (r_nilCheck rfl (hS.ev_ rfl)) fun a hS => ?_
          refine st_val hS rfl rfl (by decide) (r_fld_b rfl fo_62_1 (hS.ev_ rfl)) fun a hS => ?_
          refine st_val hS rfl rfl (by decide) (r_ld1_b rfl ag_3 (hS.ev_ rfl) rfl (Rd.of hM)) fun a hS => ?_
          refine st_val hS rfl rfl (by decide) (r_add rfl (hS.ev_ rfl) (hS.ev_ rfl)) fun a hS => ?_
          refine st_val hS rfl rfl (by decide) (r_nilCheck rfl (hS.ev_ rfl)) fun a hS => ?_
          refine st_val hS rfl rfl (by decide) (r_fld_b rfl fo_62_1 (hS.ev_ rfl)) fun a hS => ?_
          refine wl_cons rfl (e_store1 hM rfl ti_3 (hS.ev_ rfl) (hS.ev_ rfl) rfl (Nat.lt_of_lt_of_le (Nat.le_of_ble_eq_true rfl) (Nat.le_refl _)) fun w hM => ?_)
          have hM : Sat w0 w K24 (SP.blk g2 62 [strV (y22.2.f_s), Value.int .i64 (w64 (y22.2.f_at + 1))] :: SP.row kW_Piece 46 v16 x15 :: SP.blk g3 24 [Value.int .i64 (0), strV (([] : List UInt8)), Value.int .i64 (0), Value.slice none 0 0, Value.int .i64 (0)] :: L) := hM
          refine pl0 hS rfl fun a hS => ?_
          refine st_done ?_
          replace hS : Slots 55 [] a [(3, eV w0 ((none : Option Nat))), (2, Value.pointer (some ⟨g3, 0, none⟩)), (0, Value.pointer (some ⟨g2, 0, none⟩)), (4, v16)] := (hS.part (.cons rfl (.cons rfl (.cons rfl (.cons rfl (.nil _))))))
          refine x_then ?_
          refine wp_seq ?_
          refine wp_region_lit ?_
          refine st_val hS rfl rfl (by decide) (r_move rfl (hS.ev_ rfl)) fun a hS => ?_
          replace hM := hM.pull 1 rfl rfl
          obtain ⟨K30, hlK30, hM, f31⟩ := keep_row hM
          refine st_val hS rfl rfl (by decide) (r_build (cs := [Value.int .i64 (3), strV (([] : List UInt8)), Value.int .i64 (0), v16, Value.int .i64 (0)]) rfl (parts_ev hS rfl) (by obtain ⟨_, _, hvv, _⟩ := sl_val f31; rw [hvv]; clear hvv; kernel_rfl)) fun a hS => ?_
          replace hM := hM.pull 1 rfl rfl
          refine wl_cons rfl (e_storeN (vs := [Value.int .i64 (3), strV (([] : List UInt8)), Value.int .i64 (0), v16, Value.int .i64 (0)]) hM rfl ti_24 (hS.ev_ rfl) (hS.ev_ rfl) (ones_cons rfl (ones_cons rfl (ones_cons rfl (ones_cons (sl_one f31) (ones_cons rfl ones_nil))))) (Nat.le_of_ble_eq_true rfl) fun w hM => ?_)
          have hM : Sat w0 w K30 (SP.blk g3 24 [Value.int .i64 (3), strV (([] : List UInt8)), Value.int .i64 (0), v16, Value.int .i64 (0)] :: SP.blk g2 62 [strV (y22.2.f_s), Value.int .i64 (w64 (y22.2.f_at + 1))] :: L) := hM
          refine pl0 hS rfl fun a hS => ?_
          refine st_val hS rfl rfl (by decide) (r_assign rfl (hS.ev_ rfl)) fun a hS => ?_
          refine st_done ?_
          replace hS : Slots 55 [] a [(3, eV w0 ((none : Option Nat))), (2, Value.pointer (some ⟨g3, 0, none⟩)), (0, Value.pointer (some ⟨g2, 0, none⟩)), (4, v16)] := (hS.part (.cons rfl (.cons rfl (.cons rfl (.cons rfl (.nil _))))))
          refine x_then ?_
          refine wp_ret ?_
          refine x_block_ret ?_
          refine x_then_ret ?_
          refine x_scope_ret ?_
          have ho' := (Option.some.inj h).trans hr
          refine hQ _ _ _ ?_
          subst ho'
          exact ⟨rfl, K30, (v16), ((hlK12.trans hlK24).trans hlK30), (hS.part (.cons rfl (.cons rfl (.nil _)))), (hM.pull 1 rfl rfl), f31⟩
        · refine c_cond_false (hS.ev_ rfl) hc29 ?_
          refine wp_skip ?_
          refine x_block ?_
          refine x_then ?_
          refine wp_seq ?_
          refine wp_region_lit ?_
          refine st_val hS rfl rfl (by decide) (r_move rfl (hS.ev_ rfl)) fun a hS => ?_
          refine st_val hS rfl rfl (by decide) (r_move rfl (hS.ev_ rfl)) fun a hS => ?_
          obtain ⟨y32, h33, h⟩ := bindO h
          replace hM := hM.pull 1 rfl rfl
          replace hM := hM.pull 1 rfl rfl
          have hc35 := W_reader_piece_c hG h33 hM
          refine wl_cons rfl (e_call rfl Tryd.func46 rfl rfl (args2 (hS.ev_ rfl) (hS.ev_ rfl)) hc35 ?_)
          rintro _ w ⟨K34, v36, hlK34, hM, rfl⟩
          refine ⟨_, rfl, ?_⟩
          refine pl hS rfl (by decide) fun a hS => ?_
          refine st_val hS rfl rfl (by decide) (r_move rfl (hS.ev_ rfl)) fun a hS => ?_
          refine st_val hS rfl rfl (by decide) (r_extract rfl (hS.ev_ rfl) rfl) fun a hS => ?_
          refine st_val hS rfl rfl (by decide) (r_extract rfl (hS.ev_ rfl) rfl) fun a hS => ?_
          refine st_val hS rfl rfl (by decide) (r_assign rfl (hS.ev_ rfl)) fun a hS => ?_
          refine st_val hS rfl rfl (by decide) (r_assign rfl (hS.ev_ rfl)) fun a hS => ?_
          refine st_done ?_
          replace hS : Slots 55 [] a [(5, eV w0 y32.2.1), (4, v36), (3, eV w0 ((none : Option Nat))), (2, Value.pointer (some ⟨g3, 0, none⟩)), (0, Value.pointer (some ⟨g2, 0, none⟩))] := (hS.part (.cons rfl (.cons rfl (.cons rfl (.cons rfl (.cons rfl (.nil _)))))))
          refine x_then ?_
          refine wp_seq ?_
          refine wp_block ?_
          refine wp_seq ?_
          refine wp_region_lit ?_
          refine st_val hS rfl rfl (by decide) (r_move rfl (hS.ev_ rfl)) fun a hS => ?_
          refine st_val hS rfl rfl (by decide) (r_errnot rfl if_41 (hS.ev_ (v := eV w0 y32.2.1) rfl)) fun a hS => ?_
          refine st_val hS rfl rfl (by decide) (r_assign rfl (hS.ev_ rfl)) fun a hS => ?_
          refine st_done ?_
          replace hS : Slots 55 [] a [(44, Value.bool (y32.2.1.isSome)), (5, eV w0 y32.2.1), (4, v36), (3, eV w0 ((none : Option Nat))), (2, Value.pointer (some ⟨g3, 0, none⟩)), (0, Value.pointer (some ⟨g2, 0, none⟩))] := (hS.part (.cons rfl (.cons rfl (.cons rfl (.cons rfl (.cons rfl (.cons rfl (.nil _))))))))
          refine x_then ?_
          rcases ifB h with ⟨hc38, h⟩ | ⟨hc38, h⟩
          · refine c_cond_true (hS.ev_ rfl) hc38 ?_
            refine wp_seq ?_
            refine wp_region_lit ?_
            refine st_val hS rfl rfl (by decide) (r_build (cs := [Value.int .i64 (0), strV (([] : List UInt8)), Value.int .i64 (0), Value.slice none 0 0, Value.int .i64 (0)]) rfl (parts_ev hS rfl) (by kernel_rfl)) fun a hS => ?_
            refine st_val hS rfl rfl (by decide) (r_move rfl (hS.ev_ rfl)) fun a hS => ?_
            replace hM := hM.pull 2 rfl rfl
            refine wl_cons rfl (e_storeN (vs := [Value.int .i64 (0), strV (([] : List UInt8)), Value.int .i64 (0), Value.slice none 0 0, Value.int .i64 (0)]) hM rfl ti_24 (hS.ev_ rfl) (hS.ev_ rfl) (ones_cons rfl (ones_cons rfl (ones_cons rfl (ones_cons rfl (ones_cons rfl ones_nil))))) (Nat.le_of_ble_eq_true rfl) fun w hM => ?_)
            have hM : Sat w0 w K34 (SP.blk g3 24 [Value.int .i64 (0), strV (([] : List UInt8)), Value.int .i64 (0), Value.slice none 0 0, Value.int .i64 (0)] :: SP.row kW_Piece 46 v36 y32.1 :: SP.blk g2 62 [strV (y32.2.2.f_s), Value.int .i64 (y32.2.2.f_at)] :: L) := hM
            refine pl0 hS rfl fun a hS => ?_
            refine st_val hS rfl rfl (by decide) (r_assign rfl (hS.ev_ rfl)) fun a hS => ?_
            refine st_done ?_
            replace hS : Slots 55 [] a [(3, eV w0 y32.2.1), (4, v36), (2, Value.pointer (some ⟨g3, 0, none⟩)), (0, Value.pointer (some ⟨g2, 0, none⟩))] := (hS.part (.cons rfl (.cons rfl (.cons rfl (.cons rfl (.nil _))))))
            refine x_then ?_
            refine wp_ret ?_
            refine x_block_ret ?_
            refine x_then_ret ?_
            refine x_scope_ret ?_
            have ho' := (Option.some.inj h).trans hr
            refine hQ _ _ _ ?_
            subst ho'
            exact ⟨rfl, K34, (Value.slice none 0 0), ((hlK12.trans hlK24).trans hlK34), (hS.part (.cons rfl (.cons rfl (.nil _)))), ((hM.pull 1 rfl rfl).tail.pull 1 rfl rfl), (Kd.sl_nil _ _)⟩
          · refine c_cond_false (hS.ev_ rfl) hc38 ?_
            refine wp_seq ?_
            refine wp_region_lit ?_
            refine st_val hS rfl rfl (by decide) (r_move rfl (hS.ev_ rfl)) fun a hS => ?_
            obtain ⟨K39, L40, xa41, hlK39, ha42, hb43, hMb, back45⟩ := hM.borrow
            have f44 := row_sl ha42 hlK39 hb43
            obtain ⟨y46, h47, h⟩ := bindO h
            have hc49 := W_fits_c hG h47 f44 hMb
            refine wl_cons rfl (e_call rfl Tryd.func20 rfl rfl (args1 (hS.ev_ rfl)) hc49 ?_)
            rintro _ w ⟨K48, hlK48, hMb, rfl⟩
            replace hM := back45 _ _ hlK48 hMb
            refine ⟨_, rfl, ?_⟩
            refine pl hS rfl (by decide) fun a hS => ?_
            refine st_val hS rfl rfl (by decide) (r_not rfl (hS.ev_ rfl)) fun a hS => ?_
            refine st_val hS rfl rfl (by decide) (r_assign rfl (hS.ev_ rfl)) fun a hS => ?_
            refine st_done ?_
            replace hS : Slots 55 [] a [(49, Value.bool (!y46)), (4, v36), (3, eV w0 ((none : Option Nat))), (2, Value.pointer (some ⟨g3, 0, none⟩)), (0, Value.pointer (some ⟨g2, 0, none⟩))] := (hS.part (.cons rfl (.cons rfl (.cons rfl (.cons rfl (.cons rfl (.nil _)))))))
            refine x_then ?_
            rcases ifB h with ⟨hc50, h⟩ | ⟨hc50, h⟩
            · refine c_cond_true (hS.ev_ rfl) hc50 ?_
              refine wp_seq ?_
              refine tk_start #[false, false, false, false] mixed_ rfl rfl ?_
              replace hM := hM.drew
              generalize w.drew = w at hM ⊢
              refine dk_any (i := 0) #[true, false, false, false] hS rfl (by kernel_rfl) rfl rfl (by decide) (fun w => r_build (cs := [Value.int .i64 (0), strV (([] : List UInt8)), Value.int .i64 (0), Value.slice none 0 0, Value.int .i64 (0)]) rfl (parts_ev hS rfl) (by kernel_rfl)) fun a hS => ?_
              refine dk_val (i := 1) (S := Rd w0 K34 []) #[true, true, false, false] hS rfl (by kernel_rfl) rfl rfl (by decide) (Rd.up (Hp.le.refl _) hM.nil_) (fun w hR => r_ldG rfl ag_41 (hS.ev_ rfl) (hG 0 (by decide)) hR) fun a hS => ?_
              replace hM := hM.pull 2 rfl rfl
              refine dk_one (i := 2) #[true, true, true, false] rfl (by kernel_rfl) rfl (e_storeN (vs := [Value.int .i64 (0), strV (([] : List UInt8)), Value.int .i64 (0), Value.slice none 0 0, Value.int .i64 (0)]) hM rfl ti_24 (hS.ev_ rfl) (hS.ev_ rfl) (ones_cons rfl (ones_cons rfl (ones_cons rfl (ones_cons rfl (ones_cons rfl ones_nil))))) (Nat.le_of_ble_eq_true rfl) fun w hM => ?_)
              have hM : Sat w0 w K34 (SP.blk g3 24 [Value.int .i64 (0), strV (([] : List UInt8)), Value.int .i64 (0), Value.slice none 0 0, Value.int .i64 (0)] :: SP.row kW_Piece 46 v36 y32.1 :: SP.blk g2 62 [strV (y32.2.2.f_s), Value.int .i64 (y32.2.2.f_at)] :: L) := hM
              refine pT0 hS rfl (Dem.keep (fun _ => Rd.up (Hp.le.refl _) hM.nil_) Dem.nil) fun a hS => ?_
              refine dk_any (i := 3) #[true, true, true, true] hS rfl (by kernel_rfl) rfl rfl (by decide) (fun w => r_assign rfl (hS.ev_ rfl)) fun a hS => ?_
              refine tk_done (by kernel_rfl) ?_
              replace hS : Slots 55 [] a [(3, eV w0 ((some 0 : Option Nat))), (4, v36), (2, Value.pointer (some ⟨g3, 0, none⟩)), (0, Value.pointer (some ⟨g2, 0, none⟩))] := (hS.part (.cons rfl (.cons rfl (.cons rfl (.cons rfl (.nil _))))))
              refine x_then ?_
              refine wp_ret ?_
              refine x_block_ret ?_
              refine x_then_ret ?_
              refine x_scope_ret ?_
              have ho' := (Option.some.inj h).trans hr
              refine hQ _ _ _ ?_
              subst ho'
              exact ⟨rfl, K34, (Value.slice none 0 0), ((hlK12.trans hlK24).trans hlK34), (hS.part (.cons rfl (.cons rfl (.nil _)))), ((hM.pull 1 rfl rfl).tail.pull 1 rfl rfl), (Kd.sl_nil _ _)⟩
            · refine c_cond_false (hS.ev_ rfl) hc50 ?_
              refine wp_skip ?_
              refine x_block ?_
              refine x_then ?_
              refine wp_goto ?_
              refine x_scope_goto' (b := _) rfl ?_
              exact ih y32.2.2.f_s y32.2.2.f_at y32.1 _ h hr K34 (v36) _ _ ((hlK12.trans hlK24).trans hlK34) (hS.part (.cons rfl (.cons rfl (.cons rfl (.cons rfl (.nil _)))))) ((((hM.pull 2 rfl rfl).pull 1 rfl rfl).pull 2 rfl rfl))
    exact key p1.f_s (w64 (p1.f_at + 1)) (([] : List W_Piece)) _ h18 rfl K ((Value.slice none 0 0)) _ _ (Hp.le.refl _) (hS.part (.cons rfl (.cons rfl (.cons rfl (.cons rfl (.nil _)))))) ((((hM.pull 2 rfl rfl).pull 2 rfl rfl).pull 2 rfl rfl))
  · rintro e a w ⟨rfl, K19, v20, hlK19, hS, hM, f21⟩
    have hr' := Option.some.inj h
    subst hr'
    refine retR2 (.inr rfl) hS rfl ⟨_, rfl, lv_N (cs' := [Value.int .i64 (o17.2.2.2.1), strV (([] : List UInt8)), Value.int .i64 (0), v20, Value.int .i64 (0)]) (hM.pull 1 rfl rfl) ag_24 ti_24 rfl⟩ (show Sl.look _ _ = some (eV w0 o17.1) from rfl) ?_
    exact ⟨K19, (v20), hlK19, (hM.pull 1 rfl rfl).tail, rfl, f21⟩

theorem internal_stringslite_HasPrefix_c {w0 w : World} {K : Hp} {L : List SP} {p1 : List UInt8} {p2 : List UInt8} {r : Bool} (hG : Glob w0) (h : internal_stringslite_HasPrefix p1 p2 = some r) (hM : Sat w0 w K (L)) :
    Calls Tryd.prog 51 #[strV (p1), strV (p2)] w (fun e w' => ∃ (K' : Hp), Hp.le K K' ∧ Sat w0 w' K' (L) ∧ e = .returned (Value.bool (r))) := by
  refine enter_ (n := 18) (args := [strV (p1), strV (p2)]) Tryd.func51 rfl rfl (Nat.le_of_ble_eq_true rfl) fun a hS => ?_
  replace hS : Slots 18 [] a [(0, strV (p1)), (1, strV (p2))] := hS
  unfold internal_stringslite_HasPrefix at h
  refine wp_seq ?_
  refine wp_region_lit ?_
  refine st_val hS rfl rfl (by decide) (r_assign rfl (hS.ev_ rfl)) fun a hS => ?_
  refine st_done ?_
  replace hS : Slots 18 [] a [(4, Value.bool (false)), (0, strV (p1)), (1, strV (p2))] := (hS.part (.cons rfl (.cons rfl (.cons rfl (.nil _)))))
  refine x_then ?_
  refine wp_seq ?_
  refine wp_region_lit ?_
  refine st_val hS rfl rfl (by decide) (r_move rfl (hS.ev_ rfl)) fun a hS => ?_
  refine st_val hS rfl rfl (by decide) (r_len_str rfl un_9 (hS.ev_ rfl)) fun a hS => ?_
  refine st_val hS rfl rfl (by decide) (r_move rfl (hS.ev_ rfl)) fun a hS => ?_
  refine st_val hS rfl rfl (by decide) (r_len_str rfl un_9 (hS.ev_ rfl)) fun a hS => ?_
  refine st_val hS rfl rfl (by decide) (r_cmp rfl (hS.ev_ rfl) (hS.ev_ rfl) rfl) fun a hS => ?_
  refine st_val hS rfl rfl (by decide) (r_move rfl (hS.ev_ rfl)) fun a hS => ?_
  obtain ⟨x3, h4, h⟩ := bindO h
  refine wl_cut 7 (fun a w => Slots 18 [] a [(4, Value.bool (false)), (17, Value.bool (x3))] ∧ Sat w0 w K (L)) ?_ ?_
  ·
    skip
    rcases ifB h4 with ⟨hc5, h4⟩ | ⟨hc5, h4⟩
    ·
      replace hS := hS.known (k := 10) rfl hc5
      refine st_want hS rfl rfl rfl rfl rfl (by decide) (r_move rfl (hS.ev_ rfl)) fun a hS => ?_
      refine st_want hS rfl rfl rfl rfl rfl (by decide) (r_move rfl (hS.ev_ rfl)) fun a hS => ?_
      refine st_want hS rfl rfl rfl rfl rfl (by decide) (r_len_str rfl un_9 (hS.ev_ rfl)) fun a hS => ?_
      obtain ⟨s6, h7, h4⟩ := bindO h4
      refine st_want hS rfl rfl rfl rfl rfl (by decide) (r_cut_s (k := .i64) rfl un_9 (hS.ev_ rfl) (.inr ⟨rfl, rfl⟩) (.inl (congrArg some (hS.ev_ rfl))) h7) fun a hS => ?_
      refine st_want hS rfl rfl rfl rfl rfl (by decide) (r_move rfl (hS.ev_ rfl)) fun a hS => ?_
      refine st_want hS rfl rfl rfl rfl rfl (by decide) (r_seq rfl (hS.ev_ rfl) (hS.ev_ rfl)) fun a hS => ?_
      refine st_val hS rfl rfl (by decide) (r_pick_true rfl (hS.ev_ rfl) rfl (hS.ev_ rfl)) fun a hS => ?_
      refine st_done ?_
      replace hS : Slots 18 [] a [(17, Value.bool (s6 == p2)), (4, Value.bool (false))] := (hS.part (.cons rfl (.cons rfl (.nil _))))
      refine x_then ?_
      obtain rfl := Option.some.inj h4
      exact ⟨(hS.part (.cons rfl (.cons rfl (.nil _)))), hM⟩
    ·
      replace hS := hS.known (k := 10) rfl hc5
      refine st_off hS rfl rfl rfl rfl rfl rfl (by decide) fun a hS => ?_
      refine st_off hS rfl rfl rfl rfl rfl rfl (by decide) fun a hS => ?_
      refine st_off hS rfl rfl rfl rfl rfl rfl (by decide) fun a hS => ?_
      refine st_off hS rfl rfl rfl rfl rfl rfl (by decide) fun a hS => ?_
      refine st_off hS rfl rfl rfl rfl rfl rfl (by decide) fun a hS => ?_
      refine st_off hS rfl rfl rfl rfl rfl rfl (by decide) fun a hS => ?_
      refine st_val hS rfl rfl (by decide) (r_pick_false rfl (hS.ev_ rfl) rfl (hS.ev_ rfl)) fun a hS => ?_
      refine st_done ?_
      replace hS : Slots 18 [] a [(17, Value.bool (false)), (4, Value.bool (false))] := (hS.part (.cons rfl (.cons rfl (.nil _))))
      refine x_then ?_
      obtain rfl := Option.some.inj h4
      exact ⟨(hS.part (.cons rfl (.cons rfl (.nil _)))), hM⟩
  · rintro a w ⟨hS, hM⟩
    refine st_val hS rfl rfl (by decide) (r_assign rfl (hS.ev_ rfl)) fun a hS => ?_
    refine st_done ?_
    replace hS : Slots 18 [] a [(4, Value.bool (x3))] := (hS.part (.cons rfl (.nil _)))
    refine x_then ?_
    refine wp_ret ?_
    have hr' := Option.some.inj h
    subst hr'
    refine ret1 (.inr rfl) hS rfl rfl ?_
    exact ⟨K, (Hp.le.refl _), hM, rfl⟩

theorem strings_HasPrefix_c {w0 w : World} {K : Hp} {L : List SP} {p1 : List UInt8} {p2 : List UInt8} {r : Bool} (hG : Glob w0) (h : strings_HasPrefix p1 p2 = some r) (hM : Sat w0 w K (L)) :
    Calls Tryd.prog 47 #[strV (p1), strV (p2)] w (fun e w' => ∃ (K' : Hp), Hp.le K K' ∧ Sat w0 w' K' (L) ∧ e = .returned (Value.bool (r))) := by
  refine enter_ (n := 8) (args := [strV (p1), strV (p2)]) Tryd.func47 rfl rfl (Nat.le_of_ble_eq_true rfl) fun a hS => ?_
  replace hS : Slots 8 [] a [(0, strV (p1)), (1, strV (p2))] := hS
  unfold strings_HasPrefix at h
  refine wp_seq ?_
  refine wp_region_lit ?_
  refine st_val hS rfl rfl (by decide) (r_assign rfl (hS.ev_ rfl)) fun a hS => ?_
  refine st_done ?_
  replace hS : Slots 8 [] a [(4, Value.bool (false)), (0, strV (p1)), (1, strV (p2))] := (hS.part (.cons rfl (.cons rfl (.cons rfl (.nil _)))))
  refine x_then ?_
  refine wp_seq ?_
  refine wp_region_lit ?_
  refine st_val hS rfl rfl (by decide) (r_move rfl (hS.ev_ rfl)) fun a hS => ?_
  refine st_val hS rfl rfl (by decide) (r_move rfl (hS.ev_ rfl)) fun a hS => ?_
  obtain ⟨y3, h4, h⟩ := bindO h
  have hc6 := internal_stringslite_HasPrefix_c hG h4 hM
  refine wl_cons rfl (e_call rfl Tryd.func51 rfl rfl (args2 (hS.ev_ rfl) (hS.ev_ rfl)) hc6 ?_)
  rintro _ w ⟨K5, hlK5, hM, rfl⟩
  refine ⟨_, rfl, ?_⟩
  refine pl hS rfl (by decide) fun a hS => ?_
  refine st_val hS rfl rfl (by decide) (r_assign rfl (hS.ev_ rfl)) fun a hS => ?_
  refine st_done ?_
  replace hS : Slots 8 [] a [(4, Value.bool (y3))] := (hS.part (.cons rfl (.nil _)))
  refine x_then ?_
  refine wp_ret ?_
  have hr' := Option.some.inj h
  subst hr'
  refine ret1 (.inr rfl) hS rfl rfl ?_
  exact ⟨K5, hlK5, hM, rfl⟩

end Go.Proofs.YtekcconmnhjhiaaDoor
