/- crc: sums by the table. -/
import Derived.Test.YtnccebppgmnmfaaSepFacts
import Derived.Test.YtnccebppgmnmfaaSepQ
import Derived.Test.YtnccebppgmnmfaaXCrc2
set_option linter.unusedVariables false
set_option linter.unusedSimpArgs false
set_option maxRecDepth 20000
namespace Go.Proofs.YtnccebppgmnmfaaS
open Go.RowKit Go.Proofs

theorem conv_low (c : Nat) : IntKind.u8.wrap (c : Int) = ((c % 256 : Nat) : Int) := by
  rw [wrap_u8_nat]; simp [UInt8.toNat_ofNat']
theorem xor_low (c : Nat) (b : UInt8) : ibits .xor .u8 ((c % 256 : Nat) : Int) (b.toNat : Int) = ((c % 256 ^^^ b.toNat : Nat) : Int) := ibits_xor (k := .u8) rfl (by simp only [IntKind.bits]; omega) (by have := b.toNat_lt; simp only [IntKind.bits]; omega)
theorem xor_low_lt (c : Nat) (b : UInt8) : c % 256 ^^^ b.toNat < 256 := Nat.xor_lt_two_pow (n := 8) (by omega) (by have := b.toNat_lt; omega)
theorem tabV_get (j : Nat) (h : j < 256) : tabV[0 + (j : Int).toNat * 1]? = some (.int .u32 ((tabN j : Nat) : Int)) := by
  have e : 0 + (j : Int).toNat * 1 = j := by omega
  rw [e]; simp [tabV, h]
theorem shr_eight (m : Nat) : (m : Int).fdiv (2 ^ (min (8 : Int).toNat IntKind.u32.bits)) = ((m / 256 : Nat) : Int) := by
  have e : (2 : Int) ^ (min (8 : Int).toNat IntKind.u32.bits) = ((256 : Nat) : Int) := by decide
  rw [e, Int.fdiv_eq_ediv_of_nonneg _ (by omega)]; rfl
theorem tab_step (c : Nat) (b : UInt8) (h : c < 2 ^ 32) : ibits .xor .u32 ((tabN (c % 256 ^^^ b.toNat) : Nat) : Int) ((c / 256 : Nat) : Int) = ((steps 8 (c ^^^ b.toNat) : Nat) : Int) := by
  rw [ibits_xor (k := .u32) rfl (by simpa [IntKind.bits] using tabN_lt (xor_low_lt c b)) (by simp only [IntKind.bits]; omega), tab_law]
theorem end_sum (l : List UInt8) : ibits .xor .u32 ((crcFrom 4294967295 l : Nat) : Int) 4294967295 = ((crcSum l : Nat) : Int) := by
  have h := crcFrom_lt l (c := 4294967295) (by decide)
  have := ibits_xor (k := .u32) rfl (a := crcFrom 4294967295 l) (b := 4294967295) (by simpa [IntKind.bits] using h) (by decide)
  rw [ones_sub h] at this; exact this

theorem crc_Begin  : CtrP Try.prog 194 [] (fun v => v = .int .u32 4294967295) := by
  refine CtrP.of fun I => ?_
  refine ctr_of Try.func194 rfl (n := 1) rfl rfl ?_
  intro G R
  simp only [argL]
  refine gc_seq ?_
  refine gc_region ?_
  refine gl_y rfl (y_assign rfl) ?_
  refine gl_nil ?_
  refine gq_then' ?_
  refine gc_seq ?_
  refine gc_region ?_
  refine gl_y rfl (y_assign rfl) ?_
  refine gl_nil ?_
  refine gq_then' ?_
  refine gc_ret ?_
  refine gq_r1 rfl rfl perm_all ?_
  exact rfl
theorem crc_End (l : List UInt8) : CtrP Try.prog 192 [.int .u32 (crcFrom 4294967295 l : Nat)] (fun v => v = .int .u32 (crcSum l : Nat)) := by
  refine CtrP.of fun I => ?_
  refine ctr_of Try.func192 rfl (n := 5) rfl rfl ?_
  intro G R
  simp only [argL]
  refine gc_seq ?_
  refine gc_region ?_
  refine gl_y rfl (y_assign rfl) ?_
  refine gl_nil ?_
  refine gq_then' ?_
  refine gc_seq ?_
  refine gc_region ?_
  refine gl_y rfl (y_move rfl) ?_
  refine gl_y rfl (y_xor rfl rfl (end_sum l)) ?_
  refine gl_y rfl (y_assign rfl) ?_
  refine gl_nil ?_
  refine gq_then' ?_
  refine gc_ret ?_
  refine gq_r1 rfl rfl perm_all ?_
  exact rfl
theorem crc_More (c : Nat) (l : List UInt8) (hc : c < 2 ^ 32) (hl : l.length ≤ 4611686018427387904) : CtrP Try.prog 193 [.agg tabV.toArray, .int .u32 c, .string (bs l)] (fun v => v = .int .u32 (crcFrom c l : Nat)) := by
  refine CtrP.of fun I => ?_
  refine ctr_of Try.func193 rfl (n := 26) rfl rfl ?_
  intro G R
  simp only [argL]
  refine gc_seq ?_
  refine gc_region ?_
  refine gl_ef (ef_box rfl (l := _) rfl rfl) ?_
  rintro _ _ _ ⟨b3, rfl, rfl, rfl⟩
  refine gl_y rfl (y_assign rfl) ?_
  refine gl_nil ?_
  refine gq_then' ?_
  refine gc_seq ?_
  refine gc_seq ?_
  refine gc_region ?_
  refine gl_y rfl (y_move rfl) ?_
  refine gl_y rfl (y_slen Try.underlying9 rfl) ?_
  refine gl_y rfl (y_move rfl) ?_
  refine gl_nil ?_
  refine gq_then' ?_
  refine gc_block ?_
  refine gc_loopW (α := Nat) [11, 12, 7, 13, 14, 15, 16, 17, 18, 19, 20, 21, 22, 23, 1, 24, 10] (fun (i : Nat) => [(10, .int .i64 (i : Int)), (1, .int .u32 (crcFrom c (l.take i) : Nat))]) (fun (i : Nat) => [cl b3 63 tabV]) (fun (i : Nat) => i ≤ l.length) (fun (i : Nat) => l.length - i) 0 ?_ perm_same ?_ ?_
  · exact Nat.zero_le _
  · exact ⟨rfl, rfl, trivial⟩
  · rintro i hi
    have hs := crcFrom_lt (l.take i) hc
    have hx := xor_low_lt (crcFrom c (l.take i)) (at8 l (i : Int))
    refine gc_seq ?_
    refine gc_region ?_
    refine gl_y rfl (y_lss rfl rfl) ?_
    refine gl_nil ?_
    refine gq_then' ?_
    refine gc_seq ?_
    refine gc_if rfl (fun h11 => ?_) (fun h11 => ?_)
    · have g11 := h11
      try (replace g11 := of_decide_eq_true g11)
      first
      | exact absurd h11 (by decide)
      | (exfalso; omega)
      | skip
        refine gc_skip ?_
        refine gq_then' ?_
        refine gc_seq ?_
        refine gc_block ?_
        refine gc_seq ?_
        refine gc_region ?_
        refine gl_y rfl (y_move rfl) ?_
        refine gl_y rfl (y_assign rfl) ?_
        refine gl_nil ?_
        refine gq_then' ?_
        refine gc_region ?_
        refine gl_y rfl (y_move rfl) ?_
        refine gl_y rfl (y_conv Try.underlying61 Try.underlying5 rfl (conv_low _)) ?_
        refine gl_y rfl (y_move rfl) ?_
        refine gl_y rfl (y_move rfl) ?_
        refine gl_y rfl (y_sat Try.underlying9 rfl rfl (by omega) (by first | omega | (simp only [List.length_append, List.length_cons, List.length_nil, List.length_take, List.length_drop, List.length_map, List.length_replicate, List.length_set, u8s_length, fx_length, fixed_length, tabTo_len, tabV_len]; omega))) ?_
        refine gl_y rfl (y_xor rfl rfl (xor_low _ _)) ?_
        refine gl_y rfl (y_iaddr_arr Try.underlying63 sz_61 rfl rfl (by omega) (by omega)) ?_
        refine gl_y rfl (y_load ag_61 rfl (blk_own (i := 0) rfl) (tabV_get _ hx)) ?_
        refine gl_y rfl (y_move rfl) ?_
        refine gl_y rfl (y_shr rfl rfl (by omega) (shr_eight _)) ?_
        refine gl_y rfl (y_xor rfl rfl (tab_step _ _ hs)) ?_
        refine gl_y rfl (y_assign rfl) ?_
        refine gl_nil ?_
        refine gq_in_normal ?_
        refine gq_then' ?_
        refine gc_region ?_
        first | refine gl_y rfl (y_add rfl rfl (wr_i64 (by omega) (by omega))) ?_ | refine gl_y rfl (y_add rfl rfl rfl) ?_
        refine gl_y rfl (y_move rfl) ?_
        refine gl_nil ?_
        refine gq_roundW (i + 1) ?_ ?_ perm_same rfl (by repeat (first | exact Ext.refl | refine Ext.cons rfl ?_)) ?_
        · omega
        · (show l.length - (i + 1) < l.length - i); omega
        · exact ⟨rfl, congrArg (fun n : Nat => some (Value.int .u32 (n : Int))) (by rw [List.take_add_one, List.getElem?_eq_getElem (by omega), Option.toList, crcFrom_snoc, at8_get l i (by omega)]), trivial⟩
    · have g11 := h11
      try (replace g11 := of_decide_eq_false g11)
      first
      | exact absurd h11 (by decide)
      | (exfalso; omega)
      | skip
        refine gc_exit ?_
        refine gq_pass_exit ?_
        refine gq_pass_exit ?_
        refine gq_in_exit ?_
        refine gq_then' ?_
        refine gc_seq ?_
        refine gc_region ?_
        refine gl_y rfl (y_move rfl) ?_
        refine gl_y rfl (y_assign rfl) ?_
        refine gl_nil ?_
        refine gq_then' ?_
        refine gc_ret ?_
        obtain rfl : i = l.length := by omega
        refine gq_r1 rfl rfl perm_all ?_
        show Value.int .u32 ((crcFrom c (l.take l.length) : Nat) : Int) = _
        rw [List.take_length]
theorem crc_SumT (l : List UInt8) (hl : l.length ≤ 4611686018427387904) : CtrP Try.prog 115 [.agg tabV.toArray, .string (bs l)] (fun v => v = .int .u32 (crcSum l : Nat)) := by
  refine CtrP.of fun I => ?_
  refine ctr_of Try.func115 rfl (n := 10) rfl rfl ?_
  intro G R
  simp only [argL]
  refine gc_seq ?_
  refine gc_region ?_
  refine gl_ef (ef_box rfl (l := _) rfl rfl) ?_
  rintro _ _ _ ⟨b2, rfl, rfl, rfl⟩
  refine gl_y rfl (y_assign rfl) ?_
  refine gl_nil ?_
  refine gq_then' ?_
  refine gc_seq ?_
  refine gc_region_draw (N := 6) [(b2, tabV)] rfl follows_mixed (by repeat (first | exact panicOk_body | refine panicOk_then ?_ | refine panicOk_in ?_)) (by kernel_rfl) ?_ ?_
  · exact ⟨blk_own (i := 0) rfl, trivial⟩
  · skip
    refine ga_y 0 rfl (by kernel_rfl) (by kernel_rfl) rfl (y_loadA ag_63 sz_63 rfl (blk_S (k := 0) rfl) (vs := tabV) tabV_len (at_all tabV)) ?_
    refine ga_y 2 rfl (by kernel_rfl) (by kernel_rfl) rfl (y_move rfl) ?_
    refine ga_all1 (i := 1) (by kernel_rfl) ?_
    · skip
      refine gb_ef rfl (ef_callp en_194 rfl (crc_Begin) rfl) ?_
      rintro _ _ _ ⟨v6, rfl, rfl, rfl, rfl⟩
      refine ⟨sat_S ⟨blk_own (i := 0) rfl, trivial⟩, ?_⟩
      refine ga_all1 (i := 3) (by kernel_rfl) ?_
      · skip
        refine gb_ef rfl (ef_callp en_193 rfl (crc_More 4294967295 l (by decide) (by first | omega | (simp only [List.length_append, List.length_cons, List.length_nil, List.length_take, List.length_drop, List.length_map, List.length_replicate, List.length_set, u8s_length, fx_length, fixed_length, tabTo_len, tabV_len]; omega))) rfl) ?_
        rintro _ _ _ ⟨v8, rfl, rfl, rfl, rfl⟩
        refine ⟨sat_S ⟨blk_own (i := 0) rfl, trivial⟩, ?_⟩
        refine ga_all1 (i := 4) (by kernel_rfl) ?_
        · skip
          refine gb_ef rfl (ef_callp en_192 rfl (crc_End l) rfl) ?_
          rintro _ _ _ ⟨v9, rfl, rfl, rfl, rfl⟩
          refine ⟨sat_S ⟨blk_own (i := 0) rfl, trivial⟩, ?_⟩
          refine ga_y 5 rfl (by kernel_rfl) (by kernel_rfl) rfl (y_assign rfl) ?_
          refine ga_done (by kernel_rfl) ?_
          refine gq_then' ?_
          refine gc_ret ?_
          refine gq_r1 rfl rfl perm_all ?_
          exact rfl
end Go.Proofs.YtnccebppgmnmfaaS
