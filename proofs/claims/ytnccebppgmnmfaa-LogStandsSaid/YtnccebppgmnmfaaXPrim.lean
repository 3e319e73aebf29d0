/- prim: Cursor and numbers as bytes. -/
import Derived.Test.YtnccebppgmnmfaaSepFacts
import Derived.Test.YtnccebppgmnmfaaSepQ
set_option linter.unusedVariables false
set_option linter.unusedSimpArgs false
set_option maxRecDepth 20000
namespace Go.Proofs.YtnccebppgmnmfaaS
open Go.RowKit Go.Proofs

abbrev cur (b : Nat) (s : List UInt8) (bad : Bool) : Ent := cl b 271 [.string (bs s), .bool bad]
def takeB (s : List UInt8) (bad : Bool) (n : Int) : List UInt8 × List UInt8 × Bool :=
  if bad = true ∨ n < 0 ∨ n > s.length then ([], s, true) else (s.take n.toNat, s.drop n.toNat, false)

theorem prim_New {I : PH} (s : List UInt8) : Ctr Try.prog 97 [.string (bs s)] I [] (fun v _ M' => ∃ b, v = .pointer (some ⟨b, 0, none⟩) ∧ M' = [cur b s false]) := by
  refine ctr_of Try.func97 rfl (n := 6) rfl rfl ?_
  intro G R
  simp only [argL]
  refine gc_seq ?_
  refine gc_region ?_
  refine gl_y rfl (y_assign rfl) ?_
  refine gl_nil ?_
  refine gq_then' ?_
  refine gc_seq ?_
  refine gc_region ?_
  refine gl_y rfl (y_move rfl) ?_
  refine gl_y rfl (y_build pl_271 zr_271 rfl (cs := [_, _]) rfl) ?_
  refine gl_ef (ef_box rfl (l := [_, _]) rfl rfl) ?_
  rintro _ _ _ ⟨b5, rfl, rfl, rfl⟩
  refine gl_y rfl (y_assign rfl) ?_
  refine gl_nil ?_
  refine gq_then' ?_
  refine gc_ret ?_
  refine gq_r1 rfl rfl perm_same ?_
  exact ⟨_, rfl, rfl⟩
theorem cur_Bad {I : PH} (b : Nat) (s : List UInt8) (bad : Bool) : Ctr Try.prog 101 [.pointer (some ⟨b, 0, none⟩)] I [cur b s bad] (fun v _ M' => v = .bool bad ∧ M' = [cur b s bad]) := by
  refine ctr_of Try.func101 rfl (n := 7) rfl rfl ?_
  intro G R
  simp only [argL]
  refine gc_seq ?_
  refine gc_region ?_
  refine gl_y rfl (y_assign rfl) ?_
  refine gl_nil ?_
  refine gq_then' ?_
  refine gc_seq ?_
  refine gc_region ?_
  refine gl_y rfl (y_move rfl) ?_
  refine gl_y rfl (y_nilck rfl) ?_
  refine gl_y rfl (y_faddr fo_271_1 rfl) ?_
  refine gl_y rfl (y_load ag_4 rfl (blk_own (i := 0) rfl) rfl) ?_
  refine gl_y rfl (y_assign rfl) ?_
  refine gl_nil ?_
  refine gq_then' ?_
  refine gc_ret ?_
  refine gq_r1 rfl rfl perm_same ?_
  exact ⟨rfl, rfl⟩
theorem cur_Bytes {I : PH} (b : Nat) (s : List UInt8) (bad : Bool) (n : Int) (hs : s.length ≤ 4611686018427387904) : Ctr Try.prog 179 [.pointer (some ⟨b, 0, none⟩), .int .i64 n] I [cur b s bad] (fun v _ M' => v = .string (bs (takeB s bad n).1) ∧ M' = [cur b (takeB s bad n).2.1 (takeB s bad n).2.2]) := by
  refine ctr_of Try.func179 rfl (n := 42) rfl rfl ?_
  intro G R
  simp only [argL]
  refine gc_seq ?_
  refine gc_region ?_
  refine gl_y rfl (y_assign rfl) ?_
  refine gl_nil ?_
  refine gq_then' ?_
  refine gc_seq ?_
  refine gc_seq ?_
  refine gc_region ?_
  refine gl_y rfl (y_move rfl) ?_
  refine gl_y rfl (y_nilck rfl) ?_
  refine gl_y rfl (y_faddr fo_271_1 rfl) ?_
  refine gl_y rfl (y_load ag_4 rfl (blk_own (i := 0) rfl) rfl) ?_
  refine gl_y rfl (y_move rfl) ?_
  refine gl_if (t := 10) rfl (fun h10 => ?_) (fun h10 => ?_)
  · have g10 := h10
    try (replace g10 := of_decide_eq_true g10)
    first
    | exact absurd h10 (by decide)
    | (exfalso; omega)
    | skip
      refine gl_skip rfl rfl rfl h10 rfl ?_
      refine gl_skip rfl rfl rfl h10 rfl ?_
      refine gl_y rfl (y_pick_t rfl h10 rfl) ?_
      refine gl_y rfl (y_move rfl) ?_
      refine gl_skip rfl rfl rfl rfl rfl ?_
      refine gl_skip rfl rfl rfl rfl rfl ?_
      refine gl_skip rfl rfl rfl rfl rfl ?_
      refine gl_skip rfl rfl rfl rfl rfl ?_
      refine gl_skip rfl rfl rfl rfl rfl ?_
      refine gl_skip rfl rfl rfl rfl rfl ?_
      refine gl_skip rfl rfl rfl rfl rfl ?_
      refine gl_y rfl (y_pick_t rfl rfl rfl) ?_
      refine gl_nil ?_
      refine gq_then' ?_
      refine gc_t rfl rfl ?_
      refine gc_seq ?_
      refine gc_region ?_
      refine gl_y rfl (y_move rfl) ?_
      refine gl_y rfl (y_nilck rfl) ?_
      refine gl_y rfl (y_faddr fo_271_1 rfl) ?_
      refine gl_ef (ef_store sz_4 rfl rfl rfl (i := 0) rfl (by first | rfl | exact blt_of (by first | omega | (simp only [List.length_append, List.length_cons, List.length_nil, List.length_take, List.length_drop, List.length_map, List.length_replicate, List.length_set, u8s_length, fx_length, fixed_length]; omega)))) ?_
      rintro _ _ _ ⟨rfl, rfl, rfl⟩
      refine gl_nil ?_
      refine gq_then' ?_
      refine gc_seq ?_
      refine gc_region ?_
      refine gl_y rfl (y_assign rfl) ?_
      refine gl_nil ?_
      refine gq_then' ?_
      refine gc_ret ?_
      refine gq_pass_ret ?_
      refine gq_r1 rfl rfl perm_same ?_
      rw [show takeB s bad n = ([], s, true) from if_pos (by first | exact Or.inl (by assumption) | exact Or.inr (Or.inl (by omega)) | exact Or.inr (Or.inr (by omega)))]; exact ⟨rfl, rfl⟩
  · have g10 := h10
    try (replace g10 := of_decide_eq_false g10)
    first
    | exact absurd h10 (by decide)
    | (exfalso; omega)
    | skip
      refine gl_want rfl rfl rfl h10 ?_
      refine gl_y rfl (y_move rfl) ?_
      refine gl_want rfl rfl rfl h10 ?_
      refine gl_y rfl (y_lss rfl rfl) ?_
      refine gl_y rfl (y_pick_f rfl h10 rfl) ?_
      refine gl_y rfl (y_move rfl) ?_
      refine gl_if (t := 14) rfl (fun h14 => ?_) (fun h14 => ?_)
      · have g14 := h14
        try (replace g14 := of_decide_eq_true g14)
        first
        | exact absurd h14 (by decide)
        | (exfalso; omega)
        | skip
          refine gl_skip rfl rfl rfl h14 rfl ?_
          refine gl_skip rfl rfl rfl h14 rfl ?_
          refine gl_skip rfl rfl rfl h14 rfl ?_
          refine gl_skip rfl rfl rfl h14 rfl ?_
          refine gl_skip rfl rfl rfl h14 rfl ?_
          refine gl_skip rfl rfl rfl h14 rfl ?_
          refine gl_skip rfl rfl rfl h14 rfl ?_
          refine gl_y rfl (y_pick_t rfl h14 rfl) ?_
          refine gl_nil ?_
          refine gq_then' ?_
          refine gc_t rfl rfl ?_
          refine gc_seq ?_
          refine gc_region ?_
          refine gl_y rfl (y_move rfl) ?_
          refine gl_y rfl (y_nilck rfl) ?_
          refine gl_y rfl (y_faddr fo_271_1 rfl) ?_
          refine gl_ef (ef_store sz_4 rfl rfl rfl (i := 0) rfl (by first | rfl | exact blt_of (by first | omega | (simp only [List.length_append, List.length_cons, List.length_nil, List.length_take, List.length_drop, List.length_map, List.length_replicate, List.length_set, u8s_length, fx_length, fixed_length]; omega)))) ?_
          rintro _ _ _ ⟨rfl, rfl, rfl⟩
          refine gl_nil ?_
          refine gq_then' ?_
          refine gc_seq ?_
          refine gc_region ?_
          refine gl_y rfl (y_assign rfl) ?_
          refine gl_nil ?_
          refine gq_then' ?_
          refine gc_ret ?_
          refine gq_pass_ret ?_
          refine gq_r1 rfl rfl perm_same ?_
          first
            | (rw [show takeB s bad n = ([], s, true) from if_pos (by first | exact Or.inl (by assumption) | exact Or.inr (Or.inl (by omega)) | exact Or.inr (Or.inr (by omega)))]; exact ⟨rfl, rfl⟩)
            | (rw [show takeB s bad n = (s.take n.toNat, s.drop n.toNat, false) from if_neg (by rintro (e | e | e); (rw [e] at h10; cases h10); all_goals omega)]; subst h10; exact ⟨rfl, rfl⟩)
      · have g14 := h14
        try (replace g14 := of_decide_eq_false g14)
        first
        | exact absurd h14 (by decide)
        | (exfalso; omega)
        | skip
          refine gl_want rfl rfl rfl h14 ?_
          refine gl_y rfl (y_move rfl) ?_
          refine gl_want rfl rfl rfl h14 ?_
          refine gl_y rfl (y_move rfl) ?_
          refine gl_want rfl rfl rfl h14 ?_
          refine gl_y rfl (y_nilck rfl) ?_
          refine gl_want rfl rfl rfl h14 ?_
          refine gl_y rfl (y_faddr fo_271_0 rfl) ?_
          refine gl_want rfl rfl rfl h14 ?_
          refine gl_y rfl (y_load ag_9 rfl (blk_own (i := 0) rfl) rfl) ?_
          refine gl_want rfl rfl rfl h14 ?_
          refine gl_y rfl (y_slen Try.underlying9 rfl) ?_
          refine gl_want rfl rfl rfl h14 ?_
          refine gl_y rfl (y_gtr rfl rfl) ?_
          refine gl_y rfl (y_pick_f rfl h14 rfl) ?_
          refine gl_nil ?_
          refine gq_then' ?_
          refine gc_if rfl (fun h22 => ?_) (fun h22 => ?_)
          · have g22 := h22
            try (replace g22 := of_decide_eq_true g22)
            first
            | exact absurd h22 (by decide)
            | (exfalso; omega)
            | skip
              refine gc_seq ?_
              refine gc_region ?_
              refine gl_y rfl (y_move rfl) ?_
              refine gl_y rfl (y_nilck rfl) ?_
              refine gl_y rfl (y_faddr fo_271_1 rfl) ?_
              refine gl_ef (ef_store sz_4 rfl rfl rfl (i := 0) rfl (by first | rfl | exact blt_of (by first | omega | (simp only [List.length_append, List.length_cons, List.length_nil, List.length_take, List.length_drop, List.length_map, List.length_replicate, List.length_set, u8s_length, fx_length, fixed_length]; omega)))) ?_
              rintro _ _ _ ⟨rfl, rfl, rfl⟩
              refine gl_nil ?_
              refine gq_then' ?_
              refine gc_seq ?_
              refine gc_region ?_
              refine gl_y rfl (y_assign rfl) ?_
              refine gl_nil ?_
              refine gq_then' ?_
              refine gc_ret ?_
              refine gq_pass_ret ?_
              refine gq_r1 rfl rfl perm_same ?_
              first
                | (rw [show takeB s bad n = ([], s, true) from if_pos (by first | exact Or.inl (by assumption) | exact Or.inr (Or.inl (by omega)) | exact Or.inr (Or.inr (by omega)))]; exact ⟨rfl, rfl⟩)
                | (rw [show takeB s bad n = (s.take n.toNat, s.drop n.toNat, false) from if_neg (by rintro (e | e | e); (rw [e] at h10; cases h10); all_goals omega)]; subst h10; exact ⟨rfl, rfl⟩)
          · have g22 := h22
            try (replace g22 := of_decide_eq_false g22)
            first
            | exact absurd h22 (by decide)
            | (exfalso; omega)
            | skip
              refine gc_skip ?_
              refine gq_then' ?_
              refine gc_seq ?_
              refine gc_region ?_
              refine gl_y rfl (y_move rfl) ?_
              refine gl_y rfl (y_nilck rfl) ?_
              refine gl_y rfl (y_faddr fo_271_0 rfl) ?_
              refine gl_y rfl (y_load ag_9 rfl (blk_own (i := 0) rfl) rfl) ?_
              refine gl_y rfl (y_move rfl) ?_
              refine gl_y rfl (y_sslice_h Try.underlying9 rfl rfl (by omega) (by first | omega | (simp only [List.length_append, List.length_cons, List.length_nil, List.length_take, List.length_drop, List.length_map, List.length_replicate, List.length_set, u8s_length, fx_length, fixed_length]; omega))) ?_
              refine gl_y rfl (y_assign rfl) ?_
              refine gl_nil ?_
              refine gq_then' ?_
              refine gc_seq ?_
              refine gc_region ?_
              refine gl_y rfl (y_move rfl) ?_
              refine gl_y rfl (y_move rfl) ?_
              refine gl_y rfl (y_nilck rfl) ?_
              refine gl_y rfl (y_faddr fo_271_0 rfl) ?_
              refine gl_y rfl (y_load ag_9 rfl (blk_own (i := 0) rfl) rfl) ?_
              refine gl_y rfl (y_move rfl) ?_
              refine gl_y rfl (y_sslice_l Try.underlying9 rfl rfl (by omega) (by first | omega | (simp only [List.length_append, List.length_cons, List.length_nil, List.length_take, List.length_drop, List.length_map, List.length_replicate, List.length_set, u8s_length, fx_length, fixed_length]; omega))) ?_
              refine gl_y rfl (y_nilck rfl) ?_
              refine gl_y rfl (y_faddr fo_271_0 rfl) ?_
              refine gl_ef (ef_store sz_9 rfl rfl rfl (i := 0) rfl (by first | rfl | exact blt_of (by first | omega | (simp only [List.length_append, List.length_cons, List.length_nil, List.length_take, List.length_drop, List.length_map, List.length_replicate, List.length_set, u8s_length, fx_length, fixed_length]; omega)))) ?_
              rintro _ _ _ ⟨rfl, rfl, rfl⟩
              refine gl_nil ?_
              refine gq_then' ?_
              refine gc_seq ?_
              refine gc_region ?_
              refine gl_y rfl (y_move rfl) ?_
              refine gl_y rfl (y_assign rfl) ?_
              refine gl_nil ?_
              refine gq_then' ?_
              refine gc_ret ?_
              refine gq_r1 rfl rfl perm_same ?_
              first
                | (rw [show takeB s bad n = ([], s, true) from if_pos (by first | exact Or.inl (by assumption) | exact Or.inr (Or.inl (by omega)) | exact Or.inr (Or.inr (by omega)))]; exact ⟨rfl, rfl⟩)
                | (rw [show takeB s bad n = (s.take n.toNat, s.drop n.toNat, false) from if_neg (by rintro (e | e | e); (rw [e] at h10; cases h10); all_goals omega)]; subst h10; exact ⟨rfl, rfl⟩)
theorem prim_Fixed (n size : Nat) (big : Bool) (h1 : 1 ≤ size) (h8 : size ≤ 8) (hn : n < 2 ^ 64) : CtrP Try.prog 114 [.int .u64 n, .int .i64 size, .bool big] (fun v => v = .string (bs (fixed n size big))) := by
  refine CtrP.of fun I => ?_
  refine ctr_of Try.func114 rfl (n := 40) rfl rfl ?_
  intro G R
  simp only [argL]
  refine gc_seq ?_
  refine gc_region ?_
  refine gl_y rfl (y_assign rfl) ?_
  refine gl_nil ?_
  refine gq_then' ?_
  refine gc_seq ?_
  refine gc_seq ?_
  refine gc_region ?_
  refine gl_y rfl (y_move rfl) ?_
  refine gl_y rfl (y_lss rfl rfl) ?_
  refine gl_y rfl (y_move rfl) ?_
  refine gl_if (t := 12) rfl (fun h12 => ?_) (fun h12 => ?_)
  · have g12 := h12
    try (replace g12 := of_decide_eq_true g12)
    first
    | exact absurd h12 (by decide)
    | (exfalso; omega)
    | skip
      refine gl_skip rfl rfl rfl h12 rfl ?_
      refine gl_skip rfl rfl rfl h12 rfl ?_
      refine gl_y rfl (y_pick_t rfl h12 rfl) ?_
      refine gl_nil ?_
      refine gq_then' ?_
      refine gc_t rfl rfl ?_
      refine gc_seq ?_
      refine gc_region ?_
      refine gl_y rfl (y_assign rfl) ?_
      refine gl_nil ?_
      refine gq_then' ?_
      refine gc_ret ?_
      refine gq_pass_ret ?_
      refine gq_r1 rfl rfl perm_all ?_
      exact rfl
  · have g12 := h12
    try (replace g12 := of_decide_eq_false g12)
    first
    | exact absurd h12 (by decide)
    | (exfalso; omega)
    | skip
      refine gl_want rfl rfl rfl h12 ?_
      refine gl_y rfl (y_move rfl) ?_
      refine gl_want rfl rfl rfl h12 ?_
      refine gl_y rfl (y_gtr rfl rfl) ?_
      refine gl_y rfl (y_pick_f rfl h12 rfl) ?_
      refine gl_nil ?_
      refine gq_then' ?_
      refine gc_if rfl (fun h15 => ?_) (fun h15 => ?_)
      · have g15 := h15
        try (replace g15 := of_decide_eq_true g15)
        first
        | exact absurd h15 (by decide)
        | (exfalso; omega)
        | skip
          refine gc_seq ?_
          refine gc_region ?_
          refine gl_y rfl (y_assign rfl) ?_
          refine gl_nil ?_
          refine gq_then' ?_
          refine gc_ret ?_
          refine gq_pass_ret ?_
          refine gq_r1 rfl rfl perm_all ?_
          exact rfl
      · have g15 := h15
        try (replace g15 := of_decide_eq_false g15)
        first
        | exact absurd h15 (by decide)
        | (exfalso; omega)
        | skip
          refine gc_skip ?_
          refine gq_then' ?_
          refine gc_seq ?_
          refine gc_region ?_
          refine gl_y rfl (y_move rfl) ?_
          refine gl_ef (ef_make Try.underlying36 tf_5 (m := size) rfl rfl (by omega) (by omega) rfl) ?_
          rintro _ _ _ ⟨b17, rfl, rfl, rfl⟩
          refine gl_y rfl (y_assign rfl) ?_
          refine gl_nil ?_
          refine gq_then' ?_
          refine gc_seq ?_
          refine gc_seq ?_
          refine gc_region ?_
          refine gl_y rfl (y_move rfl) ?_
          refine gl_y rfl (y_len Try.underlying36 rfl) ?_
          refine gl_y rfl (y_move rfl) ?_
          refine gl_nil ?_
          refine gq_then' ?_
          refine gc_block ?_
          rw [made_u8, ← fx_zero n size big]
          refine gc_loopW (α := Nat) [21, 22, 8, 23, 9, 24, 25, 26, 27, 28, 29, 30, 31, 32, 33, 34, 35, 36, 37, 20] (fun (i : Nat) => [(20, .int .i64 (i : Int))]) (fun (i : Nat) => [cl b17 5 (u8s (fx n size big i))]) (fun (i : Nat) => i ≤ size) (fun (i : Nat) => size - i) 0 ?_ perm_same ?_ ?_
          · exact Nat.zero_le _
          · exact ⟨rfl, trivial⟩
          · rintro i hi
            refine gc_seq ?_
            refine gc_region ?_
            refine gl_y rfl (y_lss rfl rfl) ?_
            refine gl_nil ?_
            refine gq_then' ?_
            refine gc_seq ?_
            refine gc_if rfl (fun h21 => ?_) (fun h21 => ?_)
            · have g21 := h21
              try (replace g21 := of_decide_eq_true g21)
              first
              | exact absurd h21 (by decide)
              | (exfalso; omega)
              | skip
                refine gc_skip ?_
                refine gq_then' ?_
                refine gc_seq ?_
                refine gc_block ?_
                refine gc_seq ?_
                refine gc_region ?_
                refine gl_y rfl (y_move rfl) ?_
                refine gl_y rfl (y_assign rfl) ?_
                refine gl_nil ?_
                refine gq_then' ?_
                refine gc_seq ?_
                refine gc_region ?_
                refine gl_y rfl (y_move rfl) ?_
                refine gl_y rfl (y_assign rfl) ?_
                refine gl_nil ?_
                refine gq_then' ?_
                refine gc_seq ?_
                refine gc_seq ?_
                refine gc_region ?_
                refine gl_y rfl (y_move rfl) ?_
                refine gl_nil ?_
                refine gq_then' ?_
                refine gc_if rfl (fun h24 => ?_) (fun h24 => ?_)
                · have g24 := h24
                  try (replace g24 := of_decide_eq_true g24)
                  first
                  | exact absurd h24 (by decide)
                  | (exfalso; omega)
                  | skip
                    refine gc_region ?_
                    refine gl_y rfl (y_move rfl) ?_
                    first | refine gl_y rfl (y_sub rfl rfl (wr_i64 (by omega) (by omega))) ?_ | refine gl_y rfl (y_sub rfl rfl rfl) ?_
                    refine gl_y rfl (y_move rfl) ?_
                    first | refine gl_y rfl (y_sub rfl rfl (wr_i64 (by omega) (by omega))) ?_ | refine gl_y rfl (y_sub rfl rfl rfl) ?_
                    refine gl_y rfl (y_assign rfl) ?_
                    refine gl_nil ?_
                    refine gq_then' ?_
                    refine gc_region ?_
                    refine gl_y rfl (y_move rfl) ?_
                    refine gl_y rfl (y_move rfl) ?_
                    refine gl_y rfl (y_move rfl) ?_
                    refine gl_y rfl (y_move rfl) ?_
                    first | refine gl_y rfl (y_mul rfl rfl (wr_i64 (by omega) (by omega))) ?_ | refine gl_y rfl (y_mul rfl rfl rfl) ?_
                    refine gl_y rfl (y_shr rfl rfl (by omega) (shr8 n i (by omega))) ?_
                    refine gl_y rfl (y_conv Try.underlying24 Try.underlying5 rfl (u8_conv _)) ?_
                    refine gl_y rfl (y_iaddr Try.underlying36 sz_5 rfl rfl (by omega) (by first | omega | (simp only [List.length_append, List.length_cons, List.length_nil, List.length_take, List.length_drop, List.length_map, List.length_replicate, List.length_set, u8s_length, fx_length, fixed_length]; omega))) ?_
                    refine gl_ef (ef_store sz_5 rfl rfl rfl (i := 0) rfl (by first | rfl | exact blt_of (by first | omega | (simp only [List.length_append, List.length_cons, List.length_nil, List.length_take, List.length_drop, List.length_map, List.length_replicate, List.length_set, u8s_length, fx_length, fixed_length]; omega)))) ?_
                    rintro _ _ _ ⟨rfl, rfl, rfl⟩
                    refine gl_nil ?_
                    refine gq_in_normal ?_
                    refine gq_then' ?_
                    refine gc_region ?_
                    first | refine gl_y rfl (y_add rfl rfl (wr_i64 (by omega) (by omega))) ?_ | refine gl_y rfl (y_add rfl rfl rfl) ?_
                    refine gl_y rfl (y_move rfl) ?_
                    refine gl_nil ?_
                    refine gq_M (M2 := [cl b17 5 (u8s (fx n size big (i + 1)))]) (congrArg (fun l => [cl b17 5 l]) ((u8s_set _ _ _).trans (congrArg u8s ?_))) ?_
                    · rw [← fx_succ n size big i (by omega), h24]; congr 1; simp <;> omega
                    refine gq_roundW (i + 1) ?_ ?_ perm_same rfl (by repeat (first | exact Ext.refl | refine Ext.cons rfl ?_)) ?_
                    · omega
                    · (show size - (i + 1) < size - i); omega
                    · exact ⟨rfl, trivial⟩
                · have g24 := h24
                  try (replace g24 := of_decide_eq_false g24)
                  first
                  | exact absurd h24 (by decide)
                  | (exfalso; omega)
                  | skip
                    refine gc_skip ?_
                    refine gq_then' ?_
                    refine gc_region ?_
                    refine gl_y rfl (y_move rfl) ?_
                    refine gl_y rfl (y_move rfl) ?_
                    refine gl_y rfl (y_move rfl) ?_
                    refine gl_y rfl (y_move rfl) ?_
                    first | refine gl_y rfl (y_mul rfl rfl (wr_i64 (by omega) (by omega))) ?_ | refine gl_y rfl (y_mul rfl rfl rfl) ?_
                    refine gl_y rfl (y_shr rfl rfl (by omega) (shr8 n i (by omega))) ?_
                    refine gl_y rfl (y_conv Try.underlying24 Try.underlying5 rfl (u8_conv _)) ?_
                    refine gl_y rfl (y_iaddr Try.underlying36 sz_5 rfl rfl (by omega) (by first | omega | (simp only [List.length_append, List.length_cons, List.length_nil, List.length_take, List.length_drop, List.length_map, List.length_replicate, List.length_set, u8s_length, fx_length, fixed_length]; omega))) ?_
                    refine gl_ef (ef_store sz_5 rfl rfl rfl (i := 0) rfl (by first | rfl | exact blt_of (by first | omega | (simp only [List.length_append, List.length_cons, List.length_nil, List.length_take, List.length_drop, List.length_map, List.length_replicate, List.length_set, u8s_length, fx_length, fixed_length]; omega)))) ?_
                    rintro _ _ _ ⟨rfl, rfl, rfl⟩
                    refine gl_nil ?_
                    refine gq_in_normal ?_
                    refine gq_then' ?_
                    refine gc_region ?_
                    first | refine gl_y rfl (y_add rfl rfl (wr_i64 (by omega) (by omega))) ?_ | refine gl_y rfl (y_add rfl rfl rfl) ?_
                    refine gl_y rfl (y_move rfl) ?_
                    refine gl_nil ?_
                    refine gq_M (M2 := [cl b17 5 (u8s (fx n size big (i + 1)))]) (congrArg (fun l => [cl b17 5 l]) ((u8s_set _ _ _).trans (congrArg u8s ?_))) ?_
                    · rw [← fx_succ n size big i (by omega), h24]; congr 1; simp
                    refine gq_roundW (i + 1) ?_ ?_ perm_same rfl (by repeat (first | exact Ext.refl | refine Ext.cons rfl ?_)) ?_
                    · omega
                    · (show size - (i + 1) < size - i); omega
                    · exact ⟨rfl, trivial⟩
            · have g21 := h21
              try (replace g21 := of_decide_eq_false g21)
              first
              | exact absurd h21 (by decide)
              | (exfalso; omega)
              | skip
                refine gc_exit ?_
                refine gq_pass_exit ?_
                refine gq_pass_exit ?_
                refine gq_in_exit ?_
                refine gq_then' ?_
                refine gc_seq ?_
                refine gc_region ?_
                refine gl_y rfl (y_move rfl) ?_
                obtain rfl : i = size := by omega
                rw [fx_all]
                refine gl_y rfl (y_tostr (bytes := fixed n i big) Try.underlying36 Try.underlying5 Try.underlying9 rfl (blk_own (i := 0) rfl) (fixed_length _ _ _) u8s_get0) ?_
                refine gl_y rfl (y_assign rfl) ?_
                refine gl_nil ?_
                refine gq_then' ?_
                refine gc_ret ?_
                refine gq_r1 rfl rfl perm_all ?_
                exact rfl
end Go.Proofs.YtnccebppgmnmfaaS
