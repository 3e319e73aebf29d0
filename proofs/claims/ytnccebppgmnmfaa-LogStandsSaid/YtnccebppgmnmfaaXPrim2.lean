/- prim: a cursor's whole numbers of so many bytes. -/
import Derived.Test.YtnccebppgmnmfaaSepFacts
import Derived.Test.YtnccebppgmnmfaaSepQ
import Derived.Test.YtnccebppgmnmfaaXPrim
set_option linter.unusedVariables false
set_option linter.unusedSimpArgs false
set_option maxRecDepth 20000
namespace Go.Proofs.YtnccebppgmnmfaaS
open Go.RowKit Go.Proofs

/-- The number of bytes, by which end is the first. -/
def valb (big : Bool) (x : List UInt8) : Nat := val (if big then x else x.reverse)
theorem valb_lt (big : Bool) (x : List UInt8) : valb big x < 256 ^ x.length := by
  unfold valb; cases big
  · simpa using val_lt x.reverse
  · exact val_lt x
theorem seqb_len (big : Bool) (x : List UInt8) : (if big then x else x.reverse).length = x.length := by cases big <;> simp
theorem val_take (y : List UInt8) (i : Nat) (h : i < y.length) : val (y.take (i + 1)) = val (y.take i) * 256 + (at8 y (i : Int)).toNat := by
  have e : at8 y (i : Int) = y[i] := by simp [at8, h]
  rw [List.take_add_one, List.getElem?_eq_getElem h, e]; exact val_snoc _ _
theorem pow256 {i : Nat} (h : i ≤ 7) : 256 ^ i ≤ (2 : Nat) ^ 56 := by
  have : (2 : Nat) ^ 56 = 256 ^ 7 := by decide
  rw [this]; exact Nat.pow_le_pow_right (by decide) h
theorem val_take_lt (y : List UInt8) (i : Nat) (hi : i ≤ 7) : val (y.take i) < 2 ^ 56 := by
  refine Nat.lt_of_lt_of_le (val_lt _) (Nat.le_trans (Nat.pow_le_pow_right (by decide) ?_) (pow256 hi))
  simp; omega
theorem shl8 {a : Nat} (h : a < 2 ^ 56) : IntKind.u64.wrap ((a : Int) * 2 ^ (min (8 : Int).toNat IntKind.u64.bits)) = ((a * 256 : Nat) : Int) := by
  have e : (2 : Int) ^ (min (8 : Int).toNat IntKind.u64.bits) = 256 := by decide
  rw [e, wr_u64] <;> omega
theorem conv_u64 (b : UInt8) : IntKind.u64.wrap (b.toNat : Int) = (b.toNat : Int) := by
  have := toNat_lt b
  rw [wr_u64] <;> omega
theorem at8_rev (x : List UInt8) (i : Nat) (h : i < x.length) : at8 x.reverse (i : Int) = at8 x ((x.length : Int) - 1 - i) := by
  have e : ((x.length : Int) - 1 - i).toNat = x.length - 1 - i := by omega
  simp [at8, e, List.getElem?_reverse h]

theorem cur_Fixed {I : PH} (b : Nat) (s : List UInt8) (bad : Bool) (size : Int) (big : Bool) (h1 : 1 ≤ size) (h8 : size ≤ 8) (hs : s.length ≤ 4611686018427387904) : Ctr Try.prog 207 [.pointer (some ⟨b, 0, none⟩), .int .i64 size, .bool big] I [cur b s bad] (fun v _ M' => v = .int .u64 (valb big (takeB s bad size).1 : Int) ∧ M' = [cur b (takeB s bad size).2.1 (takeB s bad size).2.2]) := by
  refine ctr_of Try.func207 rfl (n := 44) rfl rfl ?_
  intro G R
  simp only [argL]
  refine gc_seq ?_
  refine gc_region ?_
  refine gl_y rfl (y_assign rfl) ?_
  refine gl_nil ?_
  refine gq_then' ?_
  refine gc_seq ?_
  refine gc_seq ?_
  refine gc_region ?_
  refine gl_y rfl (y_move rfl) ?_
  refine gl_y rfl (y_lss rfl rfl) ?_
  refine gl_y rfl (y_move rfl) ?_
  refine gl_if (t := 13) rfl (fun h13 => ?_) (fun h13 => ?_)
  · have g13 := h13
    try (replace g13 := of_decide_eq_true g13)
    first
    | exact absurd h13 (by decide)
    | (exfalso; omega)
    | skip
      refine gl_skip rfl rfl rfl h13 rfl ?_
      refine gl_skip rfl rfl rfl h13 rfl ?_
      refine gl_y rfl (y_pick_t rfl h13 rfl) ?_
      refine gl_nil ?_
      refine gq_then' ?_
      refine gc_t rfl rfl ?_
      refine gc_seq ?_
      refine gc_region ?_
      refine gl_y rfl (y_move rfl) ?_
      refine gl_y rfl (y_nilck rfl) ?_
      refine gl_y rfl (y_faddr fo_271_1 rfl) ?_
      refine gl_ef (ef_store sz_4 rfl rfl rfl (i := 0) rfl (by first | rfl | exact blt_of (by first | omega | (simp only [List.length_append, List.length_cons, List.length_nil, List.length_take, List.length_drop, List.length_map, List.length_replicate, List.length_set, u8s_length, fx_length, fixed_length]; omega)))) ?_
      rintro _ _ _ ⟨rfl, rfl, rfl⟩
      refine gl_nil ?_
      refine gq_then' ?_
      refine gc_seq ?_
      refine gc_region ?_
      refine gl_y rfl (y_assign rfl) ?_
      refine gl_nil ?_
      refine gq_then' ?_
      refine gc_ret ?_
      refine gq_pass_ret ?_
      refine gq_r1 rfl rfl perm_same ?_
      refine ⟨?_, rfl⟩
      obtain rfl : i = x.length := by omega
      rw [← hsl, List.take_length]; rfl
  · have g13 := h13
    try (replace g13 := of_decide_eq_false g13)
    first
    | exact absurd h13 (by decide)
    | (exfalso; omega)
    | skip
      refine gl_want rfl rfl rfl h13 ?_
      refine gl_y rfl (y_move rfl) ?_
      refine gl_want rfl rfl rfl h13 ?_
      refine gl_y rfl (y_gtr rfl rfl) ?_
      refine gl_y rfl (y_pick_f rfl h13 rfl) ?_
      refine gl_nil ?_
      refine gq_then' ?_
      refine gc_if rfl (fun h16 => ?_) (fun h16 => ?_)
      · have g16 := h16
        try (replace g16 := of_decide_eq_true g16)
        first
        | exact absurd h16 (by decide)
        | (exfalso; omega)
        | skip
          refine gc_seq ?_
          refine gc_region ?_
          refine gl_y rfl (y_move rfl) ?_
          refine gl_y rfl (y_nilck rfl) ?_
          refine gl_y rfl (y_faddr fo_271_1 rfl) ?_
          refine gl_ef (ef_store sz_4 rfl rfl rfl (i := 0) rfl (by first | rfl | exact blt_of (by first | omega | (simp only [List.length_append, List.length_cons, List.length_nil, List.length_take, List.length_drop, List.length_map, List.length_replicate, List.length_set, u8s_length, fx_length, fixed_length]; omega)))) ?_
          rintro _ _ _ ⟨rfl, rfl, rfl⟩
          refine gl_nil ?_
          refine gq_then' ?_
          refine gc_seq ?_
          refine gc_region ?_
          refine gl_y rfl (y_assign rfl) ?_
          refine gl_nil ?_
          refine gq_then' ?_
          refine gc_ret ?_
          refine gq_pass_ret ?_
          refine gq_r1 rfl rfl perm_same ?_
          refine ⟨?_, rfl⟩
          obtain rfl : i = x.length := by omega
          rw [← hsl, List.take_length]; rfl
      · have g16 := h16
        try (replace g16 := of_decide_eq_false g16)
        first
        | exact absurd h16 (by decide)
        | (exfalso; omega)
        | skip
          refine gc_skip ?_
          refine gq_then' ?_
          refine gc_seq ?_
          refine gc_region ?_
          refine gl_y rfl (y_move rfl) ?_
          refine gl_y rfl (y_move rfl) ?_
          refine gl_ef (ef_callm en_179 rfl (cur_Bytes _ _ _ _ (by first | omega | (simp only [List.length_append, List.length_cons, List.length_nil, List.length_take, List.length_drop, List.length_map, List.length_replicate, List.length_set, u8s_length, fx_length, fixed_length]; omega))) perm_same rfl) ?_
          rintro _ _ _ ⟨v22, Mc22, ⟨rfl, rfl⟩, rfl, rfl, rfl⟩
          generalize hx : (takeB s bad size).1 = x
          have hxl : x.length ≤ 8 := by rw [← hx]; unfold takeB; split; exact Nat.zero_le _; simp; omega
          have hsl := seqb_len big x
          refine gl_y rfl (y_assign rfl) ?_
          refine gl_nil ?_
          refine gq_then' ?_
          refine gc_seq ?_
          refine gc_region ?_
          refine gl_y rfl (y_assign rfl) ?_
          refine gl_nil ?_
          refine gq_then' ?_
          refine gc_seq ?_
          refine gc_seq ?_
          refine gc_region ?_
          refine gl_y rfl (y_move rfl) ?_
          refine gl_y rfl (y_slen Try.underlying9 rfl) ?_
          refine gl_y rfl (y_move rfl) ?_
          refine gl_nil ?_
          refine gq_then' ?_
          refine gc_block ?_
          refine gc_loopW (α := Nat) [26, 27, 9, 28, 29, 30, 31, 32, 10, 33, 34, 35, 36, 37, 38, 39, 40, 41, 8, 42, 25] (fun (i : Nat) => [(25, .int .i64 (i : Int)), (8, .int .u64 (val ((if big then x else x.reverse).take i) : Int))]) (fun (i : Nat) => [cur b (takeB s bad size).2.1 (takeB s bad size).2.2]) (fun (i : Nat) => i ≤ x.length) (fun (i : Nat) => x.length - i) 0 ?_ perm_same ?_ ?_
          · exact Nat.zero_le _
          · exact ⟨rfl, rfl, trivial⟩
          · rintro i hi
            refine gc_seq ?_
            refine gc_region ?_
            refine gl_y rfl (y_lss rfl rfl) ?_
            refine gl_nil ?_
            refine gq_then' ?_
            refine gc_seq ?_
            refine gc_if rfl (fun h26 => ?_) (fun h26 => ?_)
            · have g26 := h26
              try (replace g26 := of_decide_eq_true g26)
              first
              | exact absurd h26 (by decide)
              | (exfalso; omega)
              | skip
                refine gc_skip ?_
                refine gq_then' ?_
                refine gc_seq ?_
                refine gc_block ?_
                refine gc_seq ?_
                refine gc_region ?_
                refine gl_y rfl (y_move rfl) ?_
                refine gl_y rfl (y_assign rfl) ?_
                refine gl_nil ?_
                refine gq_then' ?_
                refine gc_seq ?_
                refine gc_region ?_
                refine gl_y rfl (y_move rfl) ?_
                refine gl_y rfl (y_slen Try.underlying9 rfl) ?_
                first | refine gl_y rfl (y_sub rfl rfl (wr_i64 (by omega) (by omega))) ?_ | refine gl_y rfl (y_sub rfl rfl rfl) ?_
                refine gl_y rfl (y_move rfl) ?_
                first | refine gl_y rfl (y_sub rfl rfl (wr_i64 (by omega) (by omega))) ?_ | refine gl_y rfl (y_sub rfl rfl rfl) ?_
                refine gl_y rfl (y_assign rfl) ?_
                refine gl_nil ?_
                refine gq_then' ?_
                refine gc_seq ?_
                refine gc_seq ?_
                refine gc_region ?_
                refine gl_y rfl (y_move rfl) ?_
                refine gl_nil ?_
                refine gq_then' ?_
                refine gc_if rfl (fun h33 => ?_) (fun h33 => ?_)
                · have g33 := h33
                  try (replace g33 := of_decide_eq_true g33)
                  first
                  | exact absurd h33 (by decide)
                  | (exfalso; omega)
                  | skip
                    refine gc_region ?_
                    refine gl_y rfl (y_move rfl) ?_
                    refine gl_y rfl (y_assign rfl) ?_
                    refine gl_nil ?_
                    refine gq_then' ?_
                    refine gc_region ?_
                    refine gl_y rfl (y_move rfl) ?_
                    refine gl_y rfl (y_shl rfl rfl (by omega) (shl8 (val_take_lt _ i (by omega)))) ?_
                    refine gl_y rfl (y_move rfl) ?_
                    refine gl_y rfl (y_move rfl) ?_
                    refine gl_y rfl (y_sat Try.underlying9 rfl rfl (by omega) (by first | omega | (simp only [List.length_append, List.length_cons, List.length_nil, List.length_take, List.length_drop, List.length_map, List.length_replicate, List.length_set, u8s_length, fx_length, fixed_length]; omega))) ?_
                    refine gl_y rfl (y_conv Try.underlying5 Try.underlying24 rfl (conv_u64 _)) ?_
                    refine gl_y rfl (y_or rfl rfl (or_shift8 _ _ (val_take_lt _ i (by omega)))) ?_
                    refine gl_y rfl (y_assign rfl) ?_
                    refine gl_nil ?_
                    refine gq_in_normal ?_
                    refine gq_then' ?_
                    refine gc_region ?_
                    first | refine gl_y rfl (y_add rfl rfl (wr_i64 (by omega) (by omega))) ?_ | refine gl_y rfl (y_add rfl rfl rfl) ?_
                    refine gl_y rfl (y_move rfl) ?_
                    refine gl_nil ?_
                    have hv := val_take (if big then x else x.reverse) i (by omega)
                    subst h33
                    simp only [if_true] at hv ⊢
                    refine gq_roundW (i + 1) ?_ ?_ perm_same rfl (by repeat (first | exact Ext.refl | refine Ext.cons rfl ?_)) ?_
                    · omega
                    · (show x.length - (i + 1) < x.length - i); omega
                    · exact ⟨rfl, congrArg (fun n : Nat => some (Value.int .u64 (n : Int))) hv.symm, trivial⟩
                · have g33 := h33
                  try (replace g33 := of_decide_eq_false g33)
                  first
                  | exact absurd h33 (by decide)
                  | (exfalso; omega)
                  | skip
                    refine gc_skip ?_
                    refine gq_then' ?_
                    refine gc_region ?_
                    refine gl_y rfl (y_move rfl) ?_
                    refine gl_y rfl (y_shl rfl rfl (by omega) (shl8 (val_take_lt _ i (by omega)))) ?_
                    refine gl_y rfl (y_move rfl) ?_
                    refine gl_y rfl (y_move rfl) ?_
                    refine gl_y rfl (y_sat Try.underlying9 rfl rfl (by omega) (by first | omega | (simp only [List.length_append, List.length_cons, List.length_nil, List.length_take, List.length_drop, List.length_map, List.length_replicate, List.length_set, u8s_length, fx_length, fixed_length]; omega))) ?_
                    refine gl_y rfl (y_conv Try.underlying5 Try.underlying24 rfl (conv_u64 _)) ?_
                    refine gl_y rfl (y_or rfl rfl (or_shift8 _ _ (val_take_lt _ i (by omega)))) ?_
                    refine gl_y rfl (y_assign rfl) ?_
                    refine gl_nil ?_
                    refine gq_in_normal ?_
                    refine gq_then' ?_
                    refine gc_region ?_
                    first | refine gl_y rfl (y_add rfl rfl (wr_i64 (by omega) (by omega))) ?_ | refine gl_y rfl (y_add rfl rfl rfl) ?_
                    refine gl_y rfl (y_move rfl) ?_
                    refine gl_nil ?_
                    have hv := val_take (if big then x else x.reverse) i (by omega)
                    subst h33
                    simp only [Bool.false_eq_true, if_false] at hv ⊢
                    rw [at8_rev x i (by omega)] at hv
                    refine gq_roundW (i + 1) ?_ ?_ perm_same rfl (by repeat (first | exact Ext.refl | refine Ext.cons rfl ?_)) ?_
                    · omega
                    · (show x.length - (i + 1) < x.length - i); omega
                    · exact ⟨rfl, congrArg (fun n : Nat => some (Value.int .u64 (n : Int))) hv.symm, trivial⟩
            · have g26 := h26
              try (replace g26 := of_decide_eq_false g26)
              first
              | exact absurd h26 (by decide)
              | (exfalso; omega)
              | skip
                refine gc_exit ?_
                refine gq_pass_exit ?_
                refine gq_pass_exit ?_
                refine gq_in_exit ?_
                refine gq_then' ?_
                refine gc_seq ?_
                refine gc_region ?_
                refine gl_y rfl (y_move rfl) ?_
                refine gl_y rfl (y_assign rfl) ?_
                refine gl_nil ?_
                refine gq_then' ?_
                refine gc_ret ?_
                refine gq_r1 rfl rfl perm_same ?_
                refine ⟨?_, rfl⟩
                obtain rfl : i = x.length := by omega
                rw [← hsl, List.take_length]; rfl
end Go.Proofs.YtnccebppgmnmfaaS
