/- crc: sums of bytes, the reference's by bits. -/
import Derived.Test.YtnccebppgmnmfaaSepFacts
import Derived.Test.YtnccebppgmnmfaaSepQ
import Derived.Test.YtnccebppgmnmfaaCrc
import Derived.Test.YtnccebppgmnmfaaXPrim2
set_option linter.unusedVariables false
set_option linter.unusedSimpArgs false
set_option maxRecDepth 20000
namespace Go.Proofs.YtnccebppgmnmfaaS
open Go.RowKit Go.Proofs

theorem steps_snoc : ∀ (n c : Nat), steps (n + 1) c = step (steps n c)
  | 0, c => rfl
  | n + 1, c => by rw [steps, steps_snoc n]; rfl
theorem rem2 (m : Nat) : ((m : Nat) : Int).tmod 2 = ((m % 2 : Nat) : Int) := by rw [Int.tmod_eq_emod_of_nonneg (by omega)]; omega
theorem quo2 (m : Nat) (h : m < 2 ^ 64) : IntKind.u64.wrap (((m : Nat) : Int).tdiv 2) = ((m / 2 : Nat) : Int) := by
  rw [Int.tdiv_eq_ediv_of_nonneg (by omega), wr_u64] <;> omega
theorem xor_poly (m : Nat) (h : m < 2 ^ 64) : ibits .xor .u64 (m : Int) 2197175160 = ((m ^^^ poly : Nat) : Int) := ibits_xor (k := .u64) rfl (by simpa [IntKind.bits] using h) (b := poly) (by decide)
theorem xor_byte (m : Nat) (b : UInt8) (h : m < 2 ^ 64) : ibits .xor .u64 (m : Int) (b.toNat : Int) = ((m ^^^ b.toNat : Nat) : Int) := ibits_xor (k := .u64) rfl (by simpa [IntKind.bits] using h) (by have := b.toNat_lt; simp only [IntKind.bits]; omega)
theorem at8_get (l : List UInt8) (i : Nat) (h : i < l.length) : at8 l (i : Int) = l[i] := by simp [at8, h]
theorem conv_sum (l : List UInt8) : IntKind.u32.wrap (IntKind.u64.wrap (4294967295 - (crcFrom 4294967295 l : Int))) = ((crcSum l : Nat) : Int) := by
  have h := crcFrom_lt l (c := 4294967295) (by decide)
  have e : (4294967295 - (crcFrom 4294967295 l : Int)) = ((crcSum l : Nat) : Int) := by unfold crcSum; omega
  have h2 := crcSum_lt l
  rw [e, wr_u64 (by omega) (by omega), wr_u32 (by omega) (by omega)]

theorem ref_Steps (c n : Nat) (hc : c < 2 ^ 32) (hn : n ≤ 100) : CtrP Try.prog 118 [.int .u64 c, .int .i64 n] (fun v => v = .int .u64 (steps n c : Nat)) := by
  refine CtrP.of fun I => ?_
  refine ctr_of Try.func118 rfl (n := 21) rfl rfl ?_
  intro G R
  simp only [argL]
  refine gc_seq ?_
  refine gc_region ?_
  refine gl_y rfl (y_assign rfl) ?_
  refine gl_nil ?_
  refine gq_then' ?_
  refine gc_seq ?_
  refine gc_seq ?_
  refine gc_region ?_
  refine gl_y rfl (y_assign rfl) ?_
  refine gl_nil ?_
  refine gq_then' ?_
  refine gc_block ?_
  refine gc_loopW (α := Nat) [7, 8, 9, 12, 13, 14, 6, 15, 16, 0, 17, 18, 19, 10, 11, 5] (fun (i : Nat) => [(5, .int .i64 (i : Int)), (0, .int .u64 (steps i c : Nat))]) (fun (i : Nat) => []) (fun (i : Nat) => i ≤ n) (fun (i : Nat) => n - i) 0 ?_ perm_all ?_ ?_
  · exact Nat.zero_le _
  · exact ⟨rfl, rfl, trivial⟩
  · rintro i hi
    have hs := steps_lt i hc
    refine gc_seq ?_
    refine gc_seq ?_
    refine gc_region ?_
    refine gl_y rfl (y_move rfl) ?_
    refine gl_y rfl (y_move rfl) ?_
    refine gl_y rfl (y_lss rfl rfl) ?_
    refine gl_nil ?_
    refine gq_then' ?_
    refine gc_if rfl (fun h9 => ?_) (fun h9 => ?_)
    · have g9 := h9
      try (replace g9 := of_decide_eq_true g9)
      first
      | exact absurd h9 (by decide)
      | (exfalso; omega)
      | skip
        refine gc_skip ?_
        refine gq_then' ?_
        refine gc_seq ?_
        refine gc_block ?_
        refine gc_seq ?_
        refine gc_region ?_
        refine gl_y rfl (y_move rfl) ?_
        refine gl_y rfl (y_rem rfl rfl (by omega) (rem2 _)) ?_
        refine gl_y rfl (y_eql rfl rfl) ?_
        refine gl_y rfl (y_assign rfl) ?_
        refine gl_nil ?_
        refine gq_then' ?_
        refine gc_seq ?_
        refine gc_region ?_
        refine gl_y rfl (y_move rfl) ?_
        refine gl_y rfl (y_quo rfl rfl (by omega) (quo2 _ (by omega))) ?_
        refine gl_y rfl (y_assign rfl) ?_
        refine gl_nil ?_
        refine gq_then' ?_
        refine gc_seq ?_
        refine gc_region ?_
        refine gl_y rfl (y_move rfl) ?_
        refine gl_nil ?_
        refine gq_then' ?_
        refine gc_if rfl (fun h17 => ?_) (fun h17 => ?_)
        · have g17 := h17
          try (replace g17 := of_decide_eq_true g17)
          first
          | exact absurd h17 (by decide)
          | (exfalso; omega)
          | skip
            refine gc_region ?_
            refine gl_y rfl (y_move rfl) ?_
            refine gl_y rfl (y_xor rfl rfl (xor_poly _ (by omega))) ?_
            refine gl_y rfl (y_assign rfl) ?_
            refine gl_nil ?_
            refine gq_in_normal ?_
            refine gq_then' ?_
            refine gc_region ?_
            refine gl_y rfl (y_move rfl) ?_
            first | refine gl_y rfl (y_add rfl rfl (wr_i64 (by omega) (by omega))) ?_ | refine gl_y rfl (y_add rfl rfl rfl) ?_
            refine gl_y rfl (y_assign rfl) ?_
            refine gl_nil ?_
            refine gq_roundW (i + 1) ?_ ?_ perm_all rfl (by repeat (first | exact Ext.refl | refine Ext.cons rfl ?_)) ?_
            · omega
            · (show n - (i + 1) < n - i); omega
            · exact ⟨rfl, congrArg (fun n : Nat => some (Value.int .u64 (n : Int))) (by rw [steps_snoc]; simp only [step]; rw [if_pos (by omega)]), trivial⟩
        · have g17 := h17
          try (replace g17 := of_decide_eq_false g17)
          first
          | exact absurd h17 (by decide)
          | (exfalso; omega)
          | skip
            refine gc_skip ?_
            refine gq_in_normal ?_
            refine gq_then' ?_
            refine gc_region ?_
            refine gl_y rfl (y_move rfl) ?_
            first | refine gl_y rfl (y_add rfl rfl (wr_i64 (by omega) (by omega))) ?_ | refine gl_y rfl (y_add rfl rfl rfl) ?_
            refine gl_y rfl (y_assign rfl) ?_
            refine gl_nil ?_
            refine gq_roundW (i + 1) ?_ ?_ perm_all rfl (by repeat (first | exact Ext.refl | refine Ext.cons rfl ?_)) ?_
            · omega
            · (show n - (i + 1) < n - i); omega
            · exact ⟨rfl, congrArg (fun n : Nat => some (Value.int .u64 (n : Int))) (by rw [steps_snoc]; simp only [step]; rw [if_neg (by omega)]), trivial⟩
    · have g9 := h9
      try (replace g9 := of_decide_eq_false g9)
      first
      | exact absurd h9 (by decide)
      | (exfalso; omega)
      | skip
        refine gc_exit ?_
        refine gq_pass_exit ?_
        refine gq_pass_exit ?_
        refine gq_in_exit ?_
        refine gq_then' ?_
        refine gc_seq ?_
        refine gc_region ?_
        refine gl_y rfl (y_move rfl) ?_
        refine gl_y rfl (y_assign rfl) ?_
        refine gl_nil ?_
        refine gq_then' ?_
        refine gc_ret ?_
        obtain rfl : i = n := by omega
        refine gq_r1 rfl rfl perm_all ?_
        rfl
theorem ref_Sum (l : List UInt8) (hl : l.length ≤ 4611686018427387904) : CtrP Try.prog 36 [.string (bs l)] (fun v => v = .int .u32 (crcSum l : Nat)) := by
  refine CtrP.of fun I => ?_
  refine ctr_of Try.func36 rfl (n := 21) rfl rfl ?_
  intro G R
  simp only [argL]
  refine gc_seq ?_
  refine gc_region ?_
  refine gl_y rfl (y_assign rfl) ?_
  refine gl_nil ?_
  refine gq_then' ?_
  refine gc_seq ?_
  refine gc_region ?_
  refine gl_y rfl (y_assign rfl) ?_
  refine gl_nil ?_
  refine gq_then' ?_
  refine gc_seq ?_
  refine gc_seq ?_
  refine gc_region ?_
  refine gl_y rfl (y_assign rfl) ?_
  refine gl_nil ?_
  refine gq_then' ?_
  refine gc_block ?_
  refine gc_loopW (α := Nat) [5, 6, 7, 8, 11, 12, 13, 14, 15, 16, 17, 3, 9, 10, 4] (fun (i : Nat) => [(4, .int .i64 (i : Int)), (3, .int .u64 (crcFrom 4294967295 (l.take i) : Nat))]) (fun (i : Nat) => []) (fun (i : Nat) => i ≤ l.length) (fun (i : Nat) => l.length - i) 0 ?_ perm_all ?_ ?_
  · exact Nat.zero_le _
  · exact ⟨rfl, rfl, trivial⟩
  · rintro i hi
    have hs := crcFrom_lt (l.take i) (c := 4294967295) (by decide)
    refine gc_seq ?_
    refine gc_seq ?_
    refine gc_region ?_
    refine gl_y rfl (y_move rfl) ?_
    refine gl_y rfl (y_move rfl) ?_
    refine gl_y rfl (y_slen Try.underlying9 rfl) ?_
    refine gl_y rfl (y_lss rfl rfl) ?_
    refine gl_nil ?_
    refine gq_then' ?_
    refine gc_if rfl (fun h8 => ?_) (fun h8 => ?_)
    · have g8 := h8
      try (replace g8 := of_decide_eq_true g8)
      first
      | exact absurd h8 (by decide)
      | (exfalso; omega)
      | skip
        refine gc_skip ?_
        refine gq_then' ?_
        refine gc_seq ?_
        refine gc_block ?_
        refine gc_region ?_
        refine gl_y rfl (y_move rfl) ?_
        refine gl_y rfl (y_move rfl) ?_
        refine gl_y rfl (y_move rfl) ?_
        refine gl_y rfl (y_sat Try.underlying9 rfl rfl (by omega) (by first | omega | (simp only [List.length_append, List.length_cons, List.length_nil, List.length_take, List.length_drop, List.length_map, List.length_replicate, List.length_set, u8s_length, fx_length, fixed_length]; omega))) ?_
        refine gl_y rfl (y_conv Try.underlying5 Try.underlying24 rfl (conv_u64 _)) ?_
        refine gl_y rfl (y_xor rfl rfl (xor_byte _ _ (by omega))) ?_
        refine gl_ef (ef_callp en_118 rfl (ref_Steps (crcFrom 4294967295 (l.take i) ^^^ (at8 l (i : Int)).toNat) 8 (Nat.xor_lt_two_pow hs (by have := (at8 l (i : Int)).toNat_lt; omega)) (by first | omega | (simp only [List.length_append, List.length_cons, List.length_nil, List.length_take, List.length_drop, List.length_map, List.length_replicate, List.length_set, u8s_length, fx_length, fixed_length]; omega))) rfl) ?_
        rintro _ _ _ ⟨v17, rfl, rfl, rfl, rfl⟩
        refine gl_y rfl (y_assign rfl) ?_
        refine gl_nil ?_
        refine gq_in_normal ?_
        refine gq_then' ?_
        refine gc_region ?_
        refine gl_y rfl (y_move rfl) ?_
        first | refine gl_y rfl (y_add rfl rfl (wr_i64 (by omega) (by omega))) ?_ | refine gl_y rfl (y_add rfl rfl rfl) ?_
        refine gl_y rfl (y_assign rfl) ?_
        refine gl_nil ?_
        refine gq_roundW (i + 1) ?_ ?_ perm_all rfl (by repeat (first | exact Ext.refl | refine Ext.cons rfl ?_)) ?_
        · omega
        · (show l.length - (i + 1) < l.length - i); omega
        · exact ⟨rfl, congrArg (fun n : Nat => some (Value.int .u64 (n : Int))) (by rw [List.take_add_one, List.getElem?_eq_getElem (by omega), Option.toList, crcFrom_snoc, at8_get l i (by omega)]), trivial⟩
    · have g8 := h8
      try (replace g8 := of_decide_eq_false g8)
      first
      | exact absurd h8 (by decide)
      | (exfalso; omega)
      | skip
        refine gc_exit ?_
        refine gq_pass_exit ?_
        refine gq_pass_exit ?_
        refine gq_in_exit ?_
        refine gq_then' ?_
        refine gc_seq ?_
        refine gc_region ?_
        refine gl_y rfl (y_move rfl) ?_
        refine gl_y rfl (y_sub rfl rfl rfl) ?_
        refine gl_y rfl (y_conv Try.underlying24 Try.underlying61 rfl (conv_sum (l.take i))) ?_
        refine gl_y rfl (y_assign rfl) ?_
        refine gl_nil ?_
        refine gq_then' ?_
        refine gc_ret ?_
        obtain rfl : i = l.length := by omega
        refine gq_r1 rfl rfl perm_all ?_
        show Value.int .u32 ((crcSum (l.take l.length) : Nat) : Int) = _
        rw [List.take_length]
end Go.Proofs.YtnccebppgmnmfaaS
