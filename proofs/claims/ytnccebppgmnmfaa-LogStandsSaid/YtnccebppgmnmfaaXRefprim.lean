/- refprim: the reference's numbers as bytes. -/
import Derived.Test.YtnccebppgmnmfaaSepFacts
import Derived.Test.YtnccebppgmnmfaaSepQ
import Derived.Test.YtnccebppgmnmfaaXCrc3
set_option linter.unusedVariables false
set_option linter.unusedSimpArgs false
set_option maxRecDepth 20000
namespace Go.Proofs.YtnccebppgmnmfaaS
open Go.RowKit Go.Proofs

theorem rem256 (m : Nat) : ((m : Nat) : Int).tmod 256 = ((m % 256 : Nat) : Int) := by rw [Int.tmod_eq_emod_of_nonneg (by omega)]; omega
theorem quo256 (n i : Nat) (h : n / 256 ^ i < 2 ^ 64) : IntKind.u64.wrap (((n / 256 ^ i : Nat) : Int).tdiv 256) = ((n / 256 ^ (i + 1) : Nat) : Int) := by
  rw [Nat.pow_succ, ← Nat.div_div_eq_div_mul]
  generalize n / 256 ^ i = m at *
  rw [Int.tdiv_eq_ediv_of_nonneg (Int.natCast_nonneg _), wr_u64] <;> omega
theorem byteAt_mod (n i : Nat) : UInt8.ofNat (n / 256 ^ i % 256) = byteAt n i := by
  apply UInt8.toNat_inj.1
  simp [byteAt, UInt8.toNat_ofNat']
theorem conv_byte (n i : Nat) : IntKind.u8.wrap ((n / 256 ^ i % 256 : Nat) : Int) = ((byteAt n i).toNat : Int) := by
  rw [wrap_u8_nat, byteAt_mod]
theorem div_pow_lt {n : Nat} (i : Nat) (h : n < 2 ^ 64) : n / 256 ^ i < 2 ^ 64 := Nat.lt_of_le_of_lt (Nat.div_le_self _ _) h

theorem ref_Fixed (n size : Nat) (big : Bool) (h1 : 1 ≤ size) (h8 : size ≤ 8) (hn : n < 2 ^ 64) : CtrP Try.prog 35 [.int .u64 n, .int .i64 size, .bool big] (fun v => v = .string (bs (fixed n size big))) := by
  refine CtrP.of fun I => ?_
  refine ctr_of Try.func35 rfl (n := 36) rfl rfl ?_
  intro G R
  simp only [argL]
  refine gc_seq ?_
  refine gc_region ?_
  refine gl_y rfl (y_assign rfl) ?_
  refine gl_nil ?_
  refine gq_then' ?_
  refine gc_seq ?_
  refine gc_region ?_
  refine gl_y rfl (y_move rfl) ?_
  refine gl_ef (ef_make Try.underlying36 tf_5 (m := size) rfl rfl (by omega) (by omega) rfl) ?_
  rintro _ _ _ ⟨b10, rfl, rfl, rfl⟩
  refine gl_y rfl (y_assign rfl) ?_
  refine gl_nil ?_
  refine gq_then' ?_
  refine gc_seq ?_
  refine gc_seq ?_
  refine gc_region ?_
  refine gl_y rfl (y_assign rfl) ?_
  refine gl_nil ?_
  refine gq_then' ?_
  refine gc_block ?_
  rw [made_u8, ← fx_zero n size big]
  refine gc_loopW (α := Nat) [11, 12, 13, 16, 17, 18, 19, 20, 21, 22, 23, 24, 25, 26, 27, 28, 29, 30, 31, 32, 33, 0, 14, 15, 8] (fun (i : Nat) => [(8, .int .i64 (i : Int)), (0, .int .u64 ((n / 256 ^ i : Nat) : Int))]) (fun (i : Nat) => [cl b10 5 (u8s (fx n size big i))]) (fun (i : Nat) => i ≤ size) (fun (i : Nat) => size - i) 0 ?_ perm_same ?_ ?_
  · exact Nat.zero_le _
  · exact ⟨rfl, congrArg (fun m : Nat => some (Value.int .u64 (m : Int))) (by simp), trivial⟩
  · rintro i hi
    have hq := div_pow_lt i hn
    refine gc_seq ?_
    refine gc_seq ?_
    refine gc_region ?_
    refine gl_y rfl (y_move rfl) ?_
    refine gl_y rfl (y_move rfl) ?_
    refine gl_y rfl (y_lss rfl rfl) ?_
    refine gl_nil ?_
    refine gq_then' ?_
    refine gc_if rfl (fun h13 => ?_) (fun h13 => ?_)
    · have g13 := h13
      try (replace g13 := of_decide_eq_true g13)
      first
      | exact absurd h13 (by decide)
      | (exfalso; omega)
      | skip
        refine gc_skip ?_
        refine gq_then' ?_
        refine gc_seq ?_
        refine gc_block ?_
        refine gc_seq ?_
        refine gc_seq ?_
        refine gc_region ?_
        refine gl_y rfl (y_move rfl) ?_
        refine gl_nil ?_
        refine gq_then' ?_
        refine gc_if rfl (fun h16 => ?_) (fun h16 => ?_)
        · have g16 := h16
          try (replace g16 := of_decide_eq_true g16)
          first
          | exact absurd h16 (by decide)
          | (exfalso; omega)
          | skip
            refine gc_region ?_
            refine gl_y rfl (y_move rfl) ?_
            refine gl_y rfl (y_move rfl) ?_
            first | refine gl_y rfl (y_sub rfl rfl (wr_i64 (by omega) (by omega))) ?_ | refine gl_y rfl (y_sub rfl rfl rfl) ?_
            refine gl_y rfl (y_move rfl) ?_
            first | refine gl_y rfl (y_sub rfl rfl (wr_i64 (by omega) (by omega))) ?_ | refine gl_y rfl (y_sub rfl rfl rfl) ?_
            refine gl_y rfl (y_move rfl) ?_
            refine gl_y rfl (y_rem rfl rfl (by omega) (rem256 _)) ?_
            refine gl_y rfl (y_conv Try.underlying24 Try.underlying5 rfl (conv_byte n i)) ?_
            refine gl_y rfl (y_iaddr Try.underlying36 sz_5 rfl rfl (by omega) (by first | omega | (simp only [List.length_append, List.length_cons, List.length_nil, List.length_take, List.length_drop, List.length_map, List.length_replicate, List.length_set, u8s_length, fx_length, fixed_length, tabTo_len, tabV_len]; omega))) ?_
            refine gl_ef (ef_store sz_5 rfl rfl rfl (i := 0) rfl (by first | rfl | exact blt_of (by first | omega | (simp only [List.length_append, List.length_cons, List.length_nil, List.length_take, List.length_drop, List.length_map, List.length_replicate, List.length_set, u8s_length, fx_length, fixed_length, tabTo_len, tabV_len]; omega)))) ?_
            rintro _ _ _ ⟨rfl, rfl, rfl⟩
            refine gl_nil ?_
            refine gq_then' ?_
            refine gc_region ?_
            refine gl_y rfl (y_move rfl) ?_
            refine gl_y rfl (y_quo rfl rfl (by omega) (quo256 n i hq)) ?_
            refine gl_y rfl (y_assign rfl) ?_
            refine gl_nil ?_
            refine gq_in_normal ?_
            refine gq_then' ?_
            refine gc_region ?_
            refine gl_y rfl (y_move rfl) ?_
            first | refine gl_y rfl (y_add rfl rfl (wr_i64 (by omega) (by omega))) ?_ | refine gl_y rfl (y_add rfl rfl rfl) ?_
            refine gl_y rfl (y_assign rfl) ?_
            refine gl_nil ?_
            refine gq_M (M2 := [cl b10 5 (u8s (fx n size big (i + 1)))]) (congrArg (fun l => [cl b10 5 l]) ((u8s_set _ _ _).trans (congrArg u8s ?_))) ?_
            · rw [← fx_succ n size big i (by omega), h16]; congr 1; simp <;> omega
            refine gq_roundW (i + 1) ?_ ?_ perm_same rfl (by repeat (first | exact Ext.refl | refine Ext.cons rfl ?_)) ?_
            · omega
            · (show size - (i + 1) < size - i); omega
            · exact ⟨rfl, rfl, trivial⟩
        · have g16 := h16
          try (replace g16 := of_decide_eq_false g16)
          first
          | exact absurd h16 (by decide)
          | (exfalso; omega)
          | skip
            refine gc_region ?_
            refine gl_y rfl (y_move rfl) ?_
            refine gl_y rfl (y_move rfl) ?_
            refine gl_y rfl (y_move rfl) ?_
            refine gl_y rfl (y_rem rfl rfl (by omega) (rem256 _)) ?_
            refine gl_y rfl (y_conv Try.underlying24 Try.underlying5 rfl (conv_byte n i)) ?_
            refine gl_y rfl (y_iaddr Try.underlying36 sz_5 rfl rfl (by omega) (by first | omega | (simp only [List.length_append, List.length_cons, List.length_nil, List.length_take, List.length_drop, List.length_map, List.length_replicate, List.length_set, u8s_length, fx_length, fixed_length, tabTo_len, tabV_len]; omega))) ?_
            refine gl_ef (ef_store sz_5 rfl rfl rfl (i := 0) rfl (by first | rfl | exact blt_of (by first | omega | (simp only [List.length_append, List.length_cons, List.length_nil, List.length_take, List.length_drop, List.length_map, List.length_replicate, List.length_set, u8s_length, fx_length, fixed_length, tabTo_len, tabV_len]; omega)))) ?_
            rintro _ _ _ ⟨rfl, rfl, rfl⟩
            refine gl_nil ?_
            refine gq_then' ?_
            refine gc_region ?_
            refine gl_y rfl (y_move rfl) ?_
            refine gl_y rfl (y_quo rfl rfl (by omega) (quo256 n i hq)) ?_
            refine gl_y rfl (y_assign rfl) ?_
            refine gl_nil ?_
            refine gq_in_normal ?_
            refine gq_then' ?_
            refine gc_region ?_
            refine gl_y rfl (y_move rfl) ?_
            first | refine gl_y rfl (y_add rfl rfl (wr_i64 (by omega) (by omega))) ?_ | refine gl_y rfl (y_add rfl rfl rfl) ?_
            refine gl_y rfl (y_assign rfl) ?_
            refine gl_nil ?_
            refine gq_M (M2 := [cl b10 5 (u8s (fx n size big (i + 1)))]) (congrArg (fun l => [cl b10 5 l]) ((u8s_set _ _ _).trans (congrArg u8s ?_))) ?_
            · rw [← fx_succ n size big i (by omega), h16]; congr 1; simp
            refine gq_roundW (i + 1) ?_ ?_ perm_same rfl (by repeat (first | exact Ext.refl | refine Ext.cons rfl ?_)) ?_
            · omega
            · (show size - (i + 1) < size - i); omega
            · exact ⟨rfl, rfl, trivial⟩
    · have g13 := h13
      try (replace g13 := of_decide_eq_false g13)
      first
      | exact absurd h13 (by decide)
      | (exfalso; omega)
      | skip
        refine gc_exit ?_
        refine gq_pass_exit ?_
        refine gq_pass_exit ?_
        refine gq_in_exit ?_
        refine gq_then' ?_
        refine gc_seq ?_
        refine gc_region ?_
        refine gl_y rfl (y_move rfl) ?_
        obtain rfl : i = size := by omega
        rw [fx_all]
        refine gl_y rfl (y_tostr (bytes := fixed n i big) Try.underlying36 Try.underlying5 Try.underlying9 rfl (blk_own (i := 0) rfl) (fixed_length _ _ _) u8s_get0) ?_
        refine gl_y rfl (y_assign rfl) ?_
        refine gl_nil ?_
        refine gq_then' ?_
        refine gc_ret ?_
        refine gq_r1 rfl rfl perm_all ?_
        exact rfl
end Go.Proofs.YtnccebppgmnmfaaS
