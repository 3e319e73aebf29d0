/- keys: the law KeysItems, joined. -/
import Derived.Test.YtgoaclokjenpkaaDoorSepFacts
import Derived.Test.YtgoaclokjenpkaaDoorSepQ
import Derived.Test.YtgoaclokjenpkaaDoorXKeysitems
set_option linter.unusedVariables false
set_option linter.unusedSimpArgs false
set_option maxRecDepth 20000
namespace Go.Proofs.YtgoaclokjenpkaaDoorS
open Go.RowKit Go.Proofs

def bads (n : Int) (s : List UInt8) (A : Option Addr) (k c b : Nat) : List Value :=
  [.iface 3 (.int .i64 n), .iface 39 (.slice A k c), .iface 41 (.agg (List.toArray [.iface 41 (.agg (List.toArray [.iface 9 (.string (bs s))]))])),
    .iface 41 (.agg (List.toArray [.iface 3 (.int .i64 n)])), .iface 21 (.int .i32 3), .iface 42 (.pointer (some ⟨b, 0, none⟩))]
theorem bads_bad (n : Int) (s : List UInt8) (A : Option Addr) (k c b i : Nat) (w : Value) (h : (bads n s A k c b)[i]? = some w) : BadItem w ∧ one1 w = true := by
  match i, h with
  | 0, h => cases h; exact ⟨item_bad _ _ (by decide) (by decide) (by decide) (by decide) (by decide), rfl⟩
  | 1, h => cases h; exact ⟨item_bad _ _ (by decide) (by decide) (by decide) (by decide) (by decide), rfl⟩
  | 2, h => cases h; exact ⟨item_badown _ _ (by decide) (by decide) (by decide) (by decide), rfl⟩
  | 3, h => cases h; exact ⟨item_badown _ _ (by decide) (by decide) (by decide) (by decide), rfl⟩
  | 4, h => cases h; exact ⟨item_bad _ _ (by decide) (by decide) (by decide) (by decide) (by decide), rfl⟩
  | 5, h => cases h; exact ⟨item_bad _ _ (by decide) (by decide) (by decide) (by decide) (by decide), rfl⟩
theorem rsl_two {b b' e k nn k' nn' : Nat} {xs ys : List Value} {I : PH} {hl : PH} (h : stars [cl b e xs, cl b' e ys] hl) (hle : hl.le I) (hx : xs.length = nn * k) (hy : ys.length = nn' * k') : Rsl I k (some ⟨b, 0, none⟩) nn xs ∧ Rsl I k' (some ⟨b', 0, none⟩) nn' ys := by
  obtain ⟨h1, h2, x1, x2, d, rfl⟩ := h
  exact ⟨rsl_cl0 ⟨h1, .emp, x1, rfl, PH.disj_emp _, (PH.union_emp _).symm⟩ (PH.le_trans (PH.le_union_left _ _) hle) hx, rsl_cl0 x2 (PH.le_trans (PH.le_union_right d) hle) hy⟩

theorem law_KeysItems (n : Int) (s : List UInt8) (hs : s.length ≤ 1048576) : CtrQ Tryd.prog 5 [.int .i64 n, .string (bs s)] (KMax) (fun v => v = .bool true) := by
  refine CtrQ.of fun I hK => ?_
  refine ctr_of Tryd.func5 rfl (n := 75) rfl rfl ?_
  intro G R
  simp only [argL]
  refine gc_seq ?_
  refine gc_region ?_
  refine gl_ef (ef_box rfl (l := [_]) rfl rfl) ?_
  rintro _ _ _ ⟨b2, rfl, rfl, rfl⟩
  refine gl_y rfl (y_assign rfl) ?_
  refine gl_nil ?_
  refine gq_then' ?_
  refine gc_seq ?_
  refine gc_region ?_
  refine gl_y rfl (y_load ag_3 rfl (blk_own (i := 0) rfl) rfl) ?_
  refine gl_y rfl (y_mkiface co_3 rfl) ?_
  refine gl_y rfl (y_move rfl) ?_
  refine gl_ef (ef_tobytes Tryd.underlying9 Tryd.underlying39 Tryd.underlying5 rfl rfl) ?_
  rintro _ _ _ ⟨b14, c14, j14, rfl, rfl, rfl⟩
  refine gl_y rfl (y_mkiface co_39 rfl) ?_
  refine gl_y rfl (y_move rfl) ?_
  refine gl_y rfl (y_mkiface co_9 rfl) ?_
  refine gl_y rfl (y_build pl_41 zr_41 rfl (cs := [_]) rfl) ?_
  refine gl_y rfl (y_mkiface co_41 rfl) ?_
  refine gl_y rfl (y_build pl_41 zr_41 rfl (cs := [_]) rfl) ?_
  refine gl_y rfl (y_mkiface co_41 rfl) ?_
  refine gl_y rfl (y_load ag_3 rfl (blk_own (i := 0) rfl) rfl) ?_
  refine gl_y rfl (y_mkiface co_3 rfl) ?_
  refine gl_y rfl (y_build pl_41 zr_41 rfl (cs := [_]) rfl) ?_
  refine gl_y rfl (y_mkiface co_41 rfl) ?_
  refine gl_y rfl (y_mkiface co_21 rfl) ?_
  refine gl_y rfl (y_mkiface co_42 rfl) ?_
  refine gl_ef (ef_buildSlice Tryd.underlying36 sz_20 zr_20 rfl rfl rfl (cs := [_, _, _, _, _, _]) (zl := [_]) rfl rfl rfl rfl) ?_
  rintro _ _ _ ⟨b28, rfl, rfl, rfl⟩
  refine gl_frzc 2 rfl ?_
  rintro I28 fz28 hle28 hR28
  replace hK := hK.le hle28
  have hR : I28 b28 = some (.cells (List.toArray (bads n s (some ⟨b14, 0, none⟩) s.length c14 b2)) 20 fz28) := hR28
  refine gl_y rfl (y_assign rfl) ?_
  refine gl_nil ?_
  refine gq_then' ?_
  refine gc_seq ?_
  refine gc_seq ?_
  refine gc_region ?_
  refine gl_y rfl (y_assign rfl) ?_
  refine gl_nil ?_
  refine gq_then' ?_
  refine gc_block ?_
  refine gc_loopW (α := Nat) [29, 30, 31, 32, 36, 37, 38, 39, 40, 41, 42, 43, 35, 44, 45, 7, 8, 47, 48, 49, 50, 51, 52, 53, 54, 55, 56, 57, 46, 58, 59, 9, 10, 60, 61, 62, 63, 64, 65, 66, 67, 68, 69, 70, 71, 72, 73, 4, 33, 34, 6] (fun (i : Nat) => [(6, .int .i64 (i : Int))]) (fun (i : Nat) => []) (fun (i : Nat) => i ≤ 6) (fun (i : Nat) => 6 - i) 0 ?_ perm_all ?_ ?_
  · exact Nat.zero_le _
  · exact ⟨rfl, trivial⟩
  · rintro i hi
    refine gc_seq ?_
    refine gc_seq ?_
    refine gc_region ?_
    refine gl_y rfl (y_move rfl) ?_
    refine gl_y rfl (y_move rfl) ?_
    refine gl_y rfl (y_len Tryd.underlying36 rfl) ?_
    refine gl_y rfl (y_lss rfl rfl) ?_
    refine gl_nil ?_
    refine gq_then' ?_
    refine gc_if rfl (fun h32 => ?_) (fun h32 => ?_)
    · have g32 := h32
      try (replace g32 := of_decide_eq_true g32)
      first
      | exact absurd h32 (by decide)
      | (exfalso; omega)
      | (exfalso; exact absurd rfl g32)
      | skip
        refine gc_skip ?_
        refine gq_then' ?_
        refine gc_seq ?_
        refine gc_block ?_
        refine gc_seq ?_
        obtain ⟨w, hw⟩ : ∃ w, (bads n s (some ⟨b14, 0, none⟩) s.length c14 b2)[i]? = some w := ⟨_, List.getElem?_eq_getElem (by simp only [bads, List.length_cons, List.length_nil]; omega)⟩
        obtain ⟨hbw, hw1⟩ := bads_bad _ _ _ _ _ _ _ _ hw
        refine gc_region ?_
        refine gl_y rfl (y_move rfl) ?_
        refine gl_y rfl (y_mkiface co_9 rfl) ?_
        refine gl_y rfl (y_move rfl) ?_
        refine gl_y rfl (y_move rfl) ?_
        refine gl_y rfl (y_iaddr Tryd.underlying36 sz_20 rfl rfl (by omega) (by first | omega | (simp only [List.length_append, List.length_cons, List.length_nil, List.length_take, List.length_drop, List.length_map, List.length_replicate, List.length_set, u8s_length, fx_length, fixed_length, turn_length]; omega))) ?_
        refine gl_y rfl (y_load ag_20 rfl (blk_known hR) (by rw [Nat.zero_add, Nat.mul_one, Int.toNat_natCast]; exact hw)) ?_
        refine gl_ef (ef_buildSlice Tryd.underlying36 sz_20 zr_20 rfl rfl rfl (cs := [_, _]) (zl := [_]) rfl rfl (fill2 rfl hw1) rfl) ?_
        rintro _ _ _ ⟨b42, rfl, rfl, rfl⟩
        refine gl_ef (ef_callq en_10 rfl (keys_EncodeBad _ _ [⟨.text s, false⟩] w hbw (by simp) (by intro a ha; simp only [List.mem_cons, List.not_mem_nil, or_false] at ha; subst ha; exact hs)) perm_same (fun hl I' h1 h2 h3 => ⟨hK.le h3, rsl_cl0 h1 h2 rfl⟩) rfl) ?_
        rintro _ _ _ ⟨v43, rfl, rfl, rfl, rfl⟩
        refine gl_y rfl (y_move rfl) ?_
        refine gl_y rfl (y_extract rfl rfl) ?_
        refine gl_y rfl (y_extract rfl rfl) ?_
        refine gl_y rfl (y_assign rfl) ?_
        refine gl_y rfl (y_assign rfl) ?_
        refine gl_nil ?_
        refine gq_then' ?_
        refine gc_seq ?_
        refine gc_region_draw (N := 16) [(b28, (bads n s (some ⟨b14, 0, none⟩) s.length c14 b2))] rfl follows_mixed (by repeat (first | exact panicOk_body | refine panicOk_then ?_ | refine panicOk_in ?_)) (by kernel_rfl) ?_ ?_
        · exact ⟨blk_known hR, trivial⟩
        · skip
          refine ga_y 0 rfl (by kernel_rfl) (by kernel_rfl) rfl (y_move rfl) ?_
          refine ga_y 1 rfl (by kernel_rfl) (by kernel_rfl) rfl (y_move rfl) ?_
          refine ga_y 2 rfl (by kernel_rfl) (by kernel_rfl) rfl (y_iaddr Tryd.underlying36 sz_20 rfl rfl (by omega) (by first | omega | (simp only [List.length_append, List.length_cons, List.length_nil, List.length_take, List.length_drop, List.length_map, List.length_replicate, List.length_set, u8s_length, fx_length, fixed_length, turn_length]; omega))) ?_
          refine ga_y 3 rfl (by kernel_rfl) (by kernel_rfl) rfl (y_load ag_20 rfl (blk_S (k := 0) rfl) (by rw [Nat.zero_add, Nat.mul_one, Int.toNat_natCast]; exact hw)) ?_
          refine ga_y 5 rfl (by kernel_rfl) (by kernel_rfl) rfl (y_move rfl) ?_
          refine ga_y 6 rfl (by kernel_rfl) (by kernel_rfl) rfl (y_move rfl) ?_
          refine ga_y 7 rfl (by kernel_rfl) (by kernel_rfl) rfl (y_iaddr Tryd.underlying36 sz_20 rfl rfl (by omega) (by first | omega | (simp only [List.length_append, List.length_cons, List.length_nil, List.length_take, List.length_drop, List.length_map, List.length_replicate, List.length_set, u8s_length, fx_length, fixed_length, turn_length]; omega))) ?_
          refine ga_y 8 rfl (by kernel_rfl) (by kernel_rfl) rfl (y_load ag_20 rfl (blk_S (k := 0) rfl) (by rw [Nat.zero_add, Nat.mul_one, Int.toNat_natCast]; exact hw)) ?_
          refine ga_all2 (i := 4) (j := 9) (by kernel_rfl) ?_ ?_
          · skip
            refine gb_ef rfl (ef_buildSlice Tryd.underlying36 sz_20 zr_20 rfl rfl rfl (cs := [_]) (zl := [_]) rfl rfl (fill1 hw1) rfl) ?_
            rintro _ _ _ ⟨b51, rfl, rfl, rfl⟩
            refine ⟨sat_S ⟨blk_known hR, trivial⟩, ?_⟩
            refine ga_all1 (i := 9) (by kernel_rfl) ?_
            · skip
              refine gb_ef rfl (ef_buildSlice Tryd.underlying36 sz_20 zr_20 rfl rfl rfl (cs := [_]) (zl := [_]) rfl rfl (fill1 hw1) rfl) ?_
              rintro _ _ _ ⟨b56, rfl, rfl, rfl⟩
              refine ⟨sat_S ⟨blk_known hR, trivial⟩, ?_⟩
              refine ga_all1 (i := 10) (by kernel_rfl) ?_
              · skip
                refine gb_ef rfl (ef_callq en_13 rfl (keys_CompareBad _ _ _ _ w hbw) (perm_two (i := 1) (j := 1) rfl rfl) (fun hl I' h1 h2 h3 => ⟨hK.le h3, rsl_two h1 h2 rfl rfl⟩) rfl) ?_
                rintro _ _ _ ⟨v57, rfl, rfl, rfl, rfl⟩
                refine ⟨sat_S ⟨blk_known hR, trivial⟩, ?_⟩
                refine ga_y 11 rfl (by kernel_rfl) (by kernel_rfl) rfl (y_move rfl) ?_
                refine ga_y 12 rfl (by kernel_rfl) (by kernel_rfl) rfl (y_extract rfl rfl) ?_
                refine ga_y 13 rfl (by kernel_rfl) (by kernel_rfl) rfl (y_extract rfl rfl) ?_
                refine ga_y 14 rfl (by kernel_rfl) (by kernel_rfl) rfl (y_assign rfl) ?_
                refine ga_y 15 rfl (by kernel_rfl) (by kernel_rfl) rfl (y_assign rfl) ?_
                refine ga_done (by kernel_rfl) ?_
                refine gq_then' ?_
                refine gc_seq ?_
                refine gc_region ?_
                refine gl_y rfl (y_move rfl) ?_
                refine gl_y rfl (y_sneq rfl rfl) ?_
                refine gl_y rfl (y_move rfl) ?_
                refine gl_if (t := 62) rfl (fun h62 => ?_) (fun h62 => ?_)
                · have g62 := h62
                  try (replace g62 := of_decide_eq_true g62)
                  first
                  | exact absurd h62 (by decide)
                  | (exfalso; omega)
                  | (exfalso; exact absurd rfl g62)
                  | skip
                    refine gl_skip rfl rfl rfl h62 rfl ?_
                    refine gl_skip rfl rfl rfl h62 rfl ?_
                    refine gl_y rfl (y_pick_t rfl h62 rfl) ?_
                    refine gl_y rfl (y_move rfl) ?_
                    refine gl_skip rfl rfl rfl rfl rfl ?_
                    refine gl_skip rfl rfl rfl rfl rfl ?_
                    refine gl_y rfl (y_pick_t rfl rfl rfl) ?_
                    refine gl_y rfl (y_move rfl) ?_
                    refine gl_skip rfl rfl rfl rfl rfl ?_
                    refine gl_skip rfl rfl rfl rfl rfl ?_
                    refine gl_y rfl (y_pick_t rfl rfl rfl) ?_
                    refine gl_nil ?_
                    refine gq_then' ?_
                    refine gc_t rfl rfl ?_
                    refine gc_seq ?_
                    refine gc_region ?_
                    refine gl_y rfl (y_assign rfl) ?_
                    refine gl_nil ?_
                    refine gq_then' ?_
                    refine gc_ret ?_
                    refine gq_in_ret ?_
                    refine gq_pass_ret ?_
                    refine gq_pass_ret ?_
                    refine gq_in_ret ?_
                    refine gq_pass_ret ?_
                    refine gq_part perm_all ?_
                    refine gq_ret1 rfl rfl hle28 ?_
                    exact rfl
                · have g62 := h62
                  try (replace g62 := of_decide_eq_false g62)
                  first
                  | exact absurd h62 (by decide)
                  | (exfalso; omega)
                  | (exfalso; exact absurd rfl g62)
                  | skip
                    refine gl_want rfl rfl rfl h62 ?_
                    refine gl_y rfl (y_move rfl) ?_
                    refine gl_want rfl rfl rfl h62 ?_
                    refine gl_y rfl (y_neq rfl rfl) ?_
                    refine gl_y rfl (y_pick_f rfl h62 rfl) ?_
                    refine gl_y rfl (y_move rfl) ?_
                    refine gl_if (t := 66) rfl (fun h66 => ?_) (fun h66 => ?_)
                    · have g66 := h66
                      try (replace g66 := of_decide_eq_true g66)
                      first
                      | exact absurd h66 (by decide)
                      | (exfalso; omega)
                      | (exfalso; exact absurd rfl g66)
                      | skip
                        refine gl_skip rfl rfl rfl h66 rfl ?_
                        refine gl_skip rfl rfl rfl h66 rfl ?_
                        refine gl_y rfl (y_pick_t rfl h66 rfl) ?_
                        refine gl_y rfl (y_move rfl) ?_
                        refine gl_skip rfl rfl rfl rfl rfl ?_
                        refine gl_skip rfl rfl rfl rfl rfl ?_
                        refine gl_y rfl (y_pick_t rfl rfl rfl) ?_
                        refine gl_nil ?_
                        refine gq_then' ?_
                        refine gc_t rfl rfl ?_
                        refine gc_seq ?_
                        refine gc_region ?_
                        refine gl_y rfl (y_assign rfl) ?_
                        refine gl_nil ?_
                        refine gq_then' ?_
                        refine gc_ret ?_
                        refine gq_in_ret ?_
                        refine gq_pass_ret ?_
                        refine gq_pass_ret ?_
                        refine gq_in_ret ?_
                        refine gq_pass_ret ?_
                        refine gq_part perm_all ?_
                        refine gq_ret1 rfl rfl hle28 ?_
                        exact rfl
                    · have g66 := h66
                      try (replace g66 := of_decide_eq_false g66)
                      first
                      | exact absurd h66 (by decide)
                      | (exfalso; omega)
                      | (exfalso; exact absurd rfl g66)
                      | skip
                        refine gl_want rfl rfl rfl h66 ?_
                        refine gl_y rfl (y_move rfl) ?_
                        refine gl_want rfl rfl rfl h66 ?_
                        refine gl_y rfl (y_neq rfl rfl) ?_
                        refine gl_y rfl (y_pick_f rfl h66 rfl) ?_
                        refine gl_y rfl (y_move rfl) ?_
                        refine gl_if (t := 70) rfl (fun h70 => ?_) (fun h70 => ?_)
                        · have g70 := h70
                          try (replace g70 := of_decide_eq_true g70)
                          first
                          | exact absurd h70 (by decide)
                          | (exfalso; omega)
                          | (exfalso; exact absurd rfl g70)
                          | skip
                            refine gl_skip rfl rfl rfl h70 rfl ?_
                            refine gl_skip rfl rfl rfl h70 rfl ?_
                            refine gl_y rfl (y_pick_t rfl h70 rfl) ?_
                            refine gl_nil ?_
                            refine gq_then' ?_
                            refine gc_t rfl rfl ?_
                            refine gc_seq ?_
                            refine gc_region ?_
                            refine gl_y rfl (y_assign rfl) ?_
                            refine gl_nil ?_
                            refine gq_then' ?_
                            refine gc_ret ?_
                            refine gq_in_ret ?_
                            refine gq_pass_ret ?_
                            refine gq_pass_ret ?_
                            refine gq_in_ret ?_
                            refine gq_pass_ret ?_
                            refine gq_part perm_all ?_
                            refine gq_ret1 rfl rfl hle28 ?_
                            exact rfl
                        · have g70 := h70
                          try (replace g70 := of_decide_eq_false g70)
                          first
                          | exact absurd h70 (by decide)
                          | (exfalso; omega)
                          | (exfalso; exact absurd rfl g70)
                          | skip
                            refine gl_want rfl rfl rfl h70 ?_
                            refine gl_y rfl (y_move rfl) ?_
                            refine gl_want rfl rfl rfl h70 ?_
                            refine gl_y rfl (y_neq rfl rfl) ?_
                            refine gl_y rfl (y_pick_f rfl h70 rfl) ?_
                            refine gl_nil ?_
                            refine gq_then' ?_
                            refine gc_if rfl (fun h73 => ?_) (fun h73 => ?_)
                            · have g73 := h73
                              try (replace g73 := of_decide_eq_true g73)
                              first
                              | exact absurd h73 (by decide)
                              | (exfalso; omega)
                              | (exfalso; exact absurd rfl g73)
                              | skip
                                refine gc_seq ?_
                                refine gc_region ?_
                                refine gl_y rfl (y_assign rfl) ?_
                                refine gl_nil ?_
                                refine gq_then' ?_
                                refine gc_ret ?_
                                refine gq_in_ret ?_
                                refine gq_pass_ret ?_
                                refine gq_pass_ret ?_
                                refine gq_in_ret ?_
                                refine gq_pass_ret ?_
                                refine gq_part perm_all ?_
                                refine gq_ret1 rfl rfl hle28 ?_
                                exact rfl
                            · have g73 := h73
                              try (replace g73 := of_decide_eq_false g73)
                              first
                              | exact absurd h73 (by decide)
                              | (exfalso; omega)
                              | (exfalso; exact absurd rfl g73)
                              | skip
                                refine gc_skip ?_
                                refine gq_in_normal ?_
                                refine gq_then' ?_
                                refine gc_region ?_
                                refine gl_y rfl (y_move rfl) ?_
                                first | refine gl_y rfl (y_add rfl rfl (wr_i64 (by omega) (by omega))) ?_ | refine gl_y rfl (y_add rfl rfl rfl) ?_
                                refine gl_y rfl (y_assign rfl) ?_
                                refine gl_nil ?_
                                refine gq_roundW (i + 1) ?_ ?_ perm_all rfl (by repeat (first | exact Ext.refl | refine Ext.cons rfl ?_)) ?_
                                · omega
                                · (show 6 - (i + 1) < 6 - i); omega
                                · exact ⟨rfl, trivial⟩
          · skip
            refine gb_ef rfl (ef_buildSlice Tryd.underlying36 sz_20 zr_20 rfl rfl rfl (cs := [_]) (zl := [_]) rfl rfl (fill1 hw1) rfl) ?_
            rintro _ _ _ ⟨b56, rfl, rfl, rfl⟩
            refine ⟨sat_S ⟨blk_known hR, trivial⟩, ?_⟩
            refine ga_all1 (i := 4) (by kernel_rfl) ?_
            · skip
              refine gb_ef rfl (ef_buildSlice Tryd.underlying36 sz_20 zr_20 rfl rfl rfl (cs := [_]) (zl := [_]) rfl rfl (fill1 hw1) rfl) ?_
              rintro _ _ _ ⟨b51, rfl, rfl, rfl⟩
              refine ⟨sat_S ⟨blk_known hR, trivial⟩, ?_⟩
              refine ga_all1 (i := 10) (by kernel_rfl) ?_
              · skip
                refine gb_ef rfl (ef_callq en_13 rfl (keys_CompareBad _ _ _ _ w hbw) (perm_two (i := 2) (j := 1) rfl rfl) (fun hl I' h1 h2 h3 => ⟨hK.le h3, rsl_two h1 h2 rfl rfl⟩) rfl) ?_
                rintro _ _ _ ⟨v57, rfl, rfl, rfl, rfl⟩
                refine ⟨sat_S ⟨blk_known hR, trivial⟩, ?_⟩
                refine ga_y 11 rfl (by kernel_rfl) (by kernel_rfl) rfl (y_move rfl) ?_
                refine ga_y 12 rfl (by kernel_rfl) (by kernel_rfl) rfl (y_extract rfl rfl) ?_
                refine ga_y 13 rfl (by kernel_rfl) (by kernel_rfl) rfl (y_extract rfl rfl) ?_
                refine ga_y 14 rfl (by kernel_rfl) (by kernel_rfl) rfl (y_assign rfl) ?_
                refine ga_y 15 rfl (by kernel_rfl) (by kernel_rfl) rfl (y_assign rfl) ?_
                refine ga_done (by kernel_rfl) ?_
                refine gq_then' ?_
                refine gc_seq ?_
                refine gc_region ?_
                refine gl_y rfl (y_move rfl) ?_
                refine gl_y rfl (y_sneq rfl rfl) ?_
                refine gl_y rfl (y_move rfl) ?_
                refine gl_if (t := 62) rfl (fun h62 => ?_) (fun h62 => ?_)
                · have g62 := h62
                  try (replace g62 := of_decide_eq_true g62)
                  first
                  | exact absurd h62 (by decide)
                  | (exfalso; omega)
                  | (exfalso; exact absurd rfl g62)
                  | skip
                    refine gl_skip rfl rfl rfl h62 rfl ?_
                    refine gl_skip rfl rfl rfl h62 rfl ?_
                    refine gl_y rfl (y_pick_t rfl h62 rfl) ?_
                    refine gl_y rfl (y_move rfl) ?_
                    refine gl_skip rfl rfl rfl rfl rfl ?_
                    refine gl_skip rfl rfl rfl rfl rfl ?_
                    refine gl_y rfl (y_pick_t rfl rfl rfl) ?_
                    refine gl_y rfl (y_move rfl) ?_
                    refine gl_skip rfl rfl rfl rfl rfl ?_
                    refine gl_skip rfl rfl rfl rfl rfl ?_
                    refine gl_y rfl (y_pick_t rfl rfl rfl) ?_
                    refine gl_nil ?_
                    refine gq_then' ?_
                    refine gc_t rfl rfl ?_
                    refine gc_seq ?_
                    refine gc_region ?_
                    refine gl_y rfl (y_assign rfl) ?_
                    refine gl_nil ?_
                    refine gq_then' ?_
                    refine gc_ret ?_
                    refine gq_in_ret ?_
                    refine gq_pass_ret ?_
                    refine gq_pass_ret ?_
                    refine gq_in_ret ?_
                    refine gq_pass_ret ?_
                    refine gq_part perm_all ?_
                    refine gq_ret1 rfl rfl hle28 ?_
                    exact rfl
                · have g62 := h62
                  try (replace g62 := of_decide_eq_false g62)
                  first
                  | exact absurd h62 (by decide)
                  | (exfalso; omega)
                  | (exfalso; exact absurd rfl g62)
                  | skip
                    refine gl_want rfl rfl rfl h62 ?_
                    refine gl_y rfl (y_move rfl) ?_
                    refine gl_want rfl rfl rfl h62 ?_
                    refine gl_y rfl (y_neq rfl rfl) ?_
                    refine gl_y rfl (y_pick_f rfl h62 rfl) ?_
                    refine gl_y rfl (y_move rfl) ?_
                    refine gl_if (t := 66) rfl (fun h66 => ?_) (fun h66 => ?_)
                    · have g66 := h66
                      try (replace g66 := of_decide_eq_true g66)
                      first
                      | exact absurd h66 (by decide)
                      | (exfalso; omega)
                      | (exfalso; exact absurd rfl g66)
                      | skip
                        refine gl_skip rfl rfl rfl h66 rfl ?_
                        refine gl_skip rfl rfl rfl h66 rfl ?_
                        refine gl_y rfl (y_pick_t rfl h66 rfl) ?_
                        refine gl_y rfl (y_move rfl) ?_
                        refine gl_skip rfl rfl rfl rfl rfl ?_
                        refine gl_skip rfl rfl rfl rfl rfl ?_
                        refine gl_y rfl (y_pick_t rfl rfl rfl) ?_
                        refine gl_nil ?_
                        refine gq_then' ?_
                        refine gc_t rfl rfl ?_
                        refine gc_seq ?_
                        refine gc_region ?_
                        refine gl_y rfl (y_assign rfl) ?_
                        refine gl_nil ?_
                        refine gq_then' ?_
                        refine gc_ret ?_
                        refine gq_in_ret ?_
                        refine gq_pass_ret ?_
                        refine gq_pass_ret ?_
                        refine gq_in_ret ?_
                        refine gq_pass_ret ?_
                        refine gq_part perm_all ?_
                        refine gq_ret1 rfl rfl hle28 ?_
                        exact rfl
                    · have g66 := h66
                      try (replace g66 := of_decide_eq_false g66)
                      first
                      | exact absurd h66 (by decide)
                      | (exfalso; omega)
                      | (exfalso; exact absurd rfl g66)
                      | skip
                        refine gl_want rfl rfl rfl h66 ?_
                        refine gl_y rfl (y_move rfl) ?_
                        refine gl_want rfl rfl rfl h66 ?_
                        refine gl_y rfl (y_neq rfl rfl) ?_
                        refine gl_y rfl (y_pick_f rfl h66 rfl) ?_
                        refine gl_y rfl (y_move rfl) ?_
                        refine gl_if (t := 70) rfl (fun h70 => ?_) (fun h70 => ?_)
                        · have g70 := h70
                          try (replace g70 := of_decide_eq_true g70)
                          first
                          | exact absurd h70 (by decide)
                          | (exfalso; omega)
                          | (exfalso; exact absurd rfl g70)
                          | skip
                            refine gl_skip rfl rfl rfl h70 rfl ?_
                            refine gl_skip rfl rfl rfl h70 rfl ?_
                            refine gl_y rfl (y_pick_t rfl h70 rfl) ?_
                            refine gl_nil ?_
                            refine gq_then' ?_
                            refine gc_t rfl rfl ?_
                            refine gc_seq ?_
                            refine gc_region ?_
                            refine gl_y rfl (y_assign rfl) ?_
                            refine gl_nil ?_
                            refine gq_then' ?_
                            refine gc_ret ?_
                            refine gq_in_ret ?_
                            refine gq_pass_ret ?_
                            refine gq_pass_ret ?_
                            refine gq_in_ret ?_
                            refine gq_pass_ret ?_
                            refine gq_part perm_all ?_
                            refine gq_ret1 rfl rfl hle28 ?_
                            exact rfl
                        · have g70 := h70
                          try (replace g70 := of_decide_eq_false g70)
                          first
                          | exact absurd h70 (by decide)
                          | (exfalso; omega)
                          | (exfalso; exact absurd rfl g70)
                          | skip
                            refine gl_want rfl rfl rfl h70 ?_
                            refine gl_y rfl (y_move rfl) ?_
                            refine gl_want rfl rfl rfl h70 ?_
                            refine gl_y rfl (y_neq rfl rfl) ?_
                            refine gl_y rfl (y_pick_f rfl h70 rfl) ?_
                            refine gl_nil ?_
                            refine gq_then' ?_
                            refine gc_if rfl (fun h73 => ?_) (fun h73 => ?_)
                            · have g73 := h73
                              try (replace g73 := of_decide_eq_true g73)
                              first
                              | exact absurd h73 (by decide)
                              | (exfalso; omega)
                              | (exfalso; exact absurd rfl g73)
                              | skip
                                refine gc_seq ?_
                                refine gc_region ?_
                                refine gl_y rfl (y_assign rfl) ?_
                                refine gl_nil ?_
                                refine gq_then' ?_
                                refine gc_ret ?_
                                refine gq_in_ret ?_
                                refine gq_pass_ret ?_
                                refine gq_pass_ret ?_
                                refine gq_in_ret ?_
                                refine gq_pass_ret ?_
                                refine gq_part perm_all ?_
                                refine gq_ret1 rfl rfl hle28 ?_
                                exact rfl
                            · have g73 := h73
                              try (replace g73 := of_decide_eq_false g73)
                              first
                              | exact absurd h73 (by decide)
                              | (exfalso; omega)
                              | (exfalso; exact absurd rfl g73)
                              | skip
                                refine gc_skip ?_
                                refine gq_in_normal ?_
                                refine gq_then' ?_
                                refine gc_region ?_
                                refine gl_y rfl (y_move rfl) ?_
                                first | refine gl_y rfl (y_add rfl rfl (wr_i64 (by omega) (by omega))) ?_ | refine gl_y rfl (y_add rfl rfl rfl) ?_
                                refine gl_y rfl (y_assign rfl) ?_
                                refine gl_nil ?_
                                refine gq_roundW (i + 1) ?_ ?_ perm_all rfl (by repeat (first | exact Ext.refl | refine Ext.cons rfl ?_)) ?_
                                · omega
                                · (show 6 - (i + 1) < 6 - i); omega
                                · exact ⟨rfl, trivial⟩
    · have g32 := h32
      try (replace g32 := of_decide_eq_false g32)
      first
      | exact absurd h32 (by decide)
      | (exfalso; omega)
      | (exfalso; exact absurd rfl g32)
      | skip
        refine gc_exit ?_
        refine gq_pass_exit ?_
        refine gq_pass_exit ?_
        refine gq_in_exit ?_
        refine gq_then' ?_
        refine gc_seq ?_
        refine gc_region ?_
        refine gl_ef (ef_callq en_8 rfl (law_awake) perm_all (fun _ _ _ _ h => hK.le h) rfl) ?_
        rintro _ _ _ ⟨v74, rfl, rfl, rfl, rfl⟩
        refine gl_y rfl (y_assign rfl) ?_
        refine gl_nil ?_
        refine gq_then' ?_
        refine gc_ret ?_
        refine gq_part perm_all ?_
        refine gq_ret1 rfl rfl hle28 ?_
        exact rfl
end Go.Proofs.YtgoaclokjenpkaaDoorS
