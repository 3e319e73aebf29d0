/- crc: the table, and sums by it. -/
import Derived.Test.YtnccebppgmnmfaaSepFacts
import Derived.Test.YtnccebppgmnmfaaSepQ
import Derived.Test.YtnccebppgmnmfaaXCrc
set_option linter.unusedVariables false
set_option linter.unusedSimpArgs false
set_option maxRecDepth 20000
namespace Go.Proofs.YtnccebppgmnmfaaS
open Go.RowKit Go.Proofs

theorem and_one (m : Nat) (h : m < 2 ^ 32) : ibits .and .u32 (m : Int) 1 = ((m % 2 : Nat) : Int) := by
  have := ibits_and (k := .u32) rfl (a := m) (b := 1) (by simpa [IntKind.bits] using h) (by decide)
  rw [Nat.and_one_is_mod] at this; exact this
theorem shr_one (m : Nat) : (m : Int).fdiv (2 ^ (min (1 : Int).toNat IntKind.u32.bits)) = ((m / 2 : Nat) : Int) := by
  have e : (2 : Int) ^ (min (1 : Int).toNat IntKind.u32.bits) = ((2 : Nat) : Int) := by decide
  rw [e, Int.fdiv_eq_ediv_of_nonneg _ (by omega)]; rfl
theorem neg_odd (m : Nat) : IntKind.u32.wrap (0 - ((m % 2 : Nat) : Int)) = ((if m % 2 = 1 then 4294967295 else 0 : Nat) : Int) := by
  have h : m % 2 = 0 ∨ m % 2 = 1 := by omega
  rcases h with h | h <;> rw [h] <;> decide
theorem and_poly (m : Nat) : ibits .and .u32 2197175160 ((if m % 2 = 1 then 4294967295 else 0 : Nat) : Int) = ((if m % 2 = 1 then poly else 0 : Nat) : Int) := by
  by_cases h : m % 2 = 1
  · rw [if_pos h, if_pos h]; decide
  · rw [if_neg h, if_neg h]; decide
theorem xor_step (m : Nat) (h : m < 2 ^ 32) : ibits .xor .u32 ((m / 2 : Nat) : Int) ((if m % 2 = 1 then poly else 0 : Nat) : Int) = ((step m : Nat) : Int) := by
  rw [ibits_xor (k := .u32) rfl (by simp only [IntKind.bits]; omega) (by split <;> decide)]
  unfold step
  by_cases e : m % 2 = 1
  · rw [if_pos e, if_pos e]
  · rw [if_neg e, if_neg e, Nat.xor_zero]
def tabTo (i : Nat) : List Value := (List.range 256).map fun j => .int .u32 ((if j < i then tabN j else 0 : Nat) : Int)
def tabV : List Value := (List.range 256).map fun j => .int .u32 ((tabN j : Nat) : Int)
theorem tabTo_len (i : Nat) : (tabTo i).length = 256 := by simp [tabTo]
theorem tabV_len : tabV.length = 256 := by simp [tabV]
theorem tabTo_zero : List.replicate 256 (Value.int .u32 0) = tabTo 0 := by
  apply List.ext_getElem
  · rw [tabTo_len, List.length_replicate]
  · intro i h1 h2
    rw [List.getElem_replicate]
    simp only [tabTo, List.getElem_map, List.getElem_range, if_neg (Nat.not_lt_zero _)]
    rfl
theorem tabV_one : tabV.all one1 = true := by
  rw [List.all_eq_true]
  intro v hv
  obtain ⟨j, _, rfl⟩ := List.mem_map.1 hv
  rfl
theorem setAt_all : ∀ (vs l p : List Value), vs.length = l.length → setAt (p ++ l) p.length vs = p ++ vs
  | [], [], p, _ => rfl
  | [], _ :: _, p, h => by cases h
  | _ :: _, [], p, h => by cases h
  | v :: vs, u :: l, p, h => by
    have ih := setAt_all vs l (p ++ [v]) (by simpa using h)
    simp only [setAt]
    simpa using ih
theorem setAt_tab (l : List Value) (h : l.length = 256) : setAt l 0 tabV = tabV := by
  have := setAt_all tabV l [] (by rw [tabV_len, h])
  simpa using this
theorem tabTo_all : tabTo 256 = tabV := by
  apply List.ext_getElem
  · simp [tabTo, tabV]
  · intro i h1 h2
    simp [tabTo] at h1
    simp [tabTo, tabV, h1]
theorem tabTo_set (i : Nat) (h : i < 256) : (tabTo i).set (0 + (i : Int).toNat * 1) (.int .u32 ((steps 8 i : Nat) : Int)) = tabTo (i + 1) := by
  have e : 0 + (i : Int).toNat * 1 = i := by omega
  rw [e]
  apply List.ext_getElem
  · simp [tabTo]
  · intro j h1 h2
    rw [List.getElem_set]
    by_cases hj : i = j
    · subst hj; simp [tabTo, tabN]
    · rw [if_neg hj]
      simp only [tabTo, List.getElem_map, List.getElem_range]
      by_cases hlt : j < i
      · rw [if_pos hlt, if_pos (by omega)]
      · rw [if_neg hlt, if_neg (by omega)]

theorem crc_Make  : CtrP Try.prog 31 [] (fun v => v = .agg tabV.toArray) := by
  refine CtrP.of fun I => ?_
  refine ctr_of Try.func31 rfl (n := 26) rfl rfl ?_
  intro G R
  simp only [argL]
  refine gc_seq ?_
  refine gc_region ?_
  refine gl_ef (ef_alloc zr_63 (l := _) rfl rfl) ?_
  rintro _ _ _ ⟨b0, rfl, rfl, rfl⟩
  refine gl_nil ?_
  refine gq_then' ?_
  refine gc_seq ?_
  refine gc_region ?_
  refine gl_ef (ef_alloc zr_63 (l := _) rfl rfl) ?_
  rintro _ _ _ ⟨b1, rfl, rfl, rfl⟩
  refine gl_nil ?_
  refine gq_then' ?_
  refine gc_seq ?_
  refine gc_seq ?_
  refine gc_region ?_
  refine gl_y rfl (y_move rfl) ?_
  refine gl_nil ?_
  refine gq_then' ?_
  refine gc_block ?_
  refine gc_M (congrArg (fun l => [_, cl b1 63 l]) tabTo_zero) ?_
  refine gc_loopW (α := Nat) [6, 7, 2, 8, 9, 3, 10, 11, 12, 13, 4, 14, 15, 16, 17, 18, 19, 20, 21, 22, 23, 24, 5] (fun (i : Nat) => [(5, .int .i64 (i : Int))]) (fun (i : Nat) => [cl b0 63 (List.replicate 256 (Value.int .u32 0)), cl b1 63 (tabTo i)]) (fun (i : Nat) => i ≤ 256) (fun (i : Nat) => 256 - i) 0 ?_ perm_same ?_ ?_
  · exact Nat.zero_le _
  · exact ⟨rfl, trivial⟩
  · rintro i hi
    refine gc_seq ?_
    refine gc_region ?_
    refine gl_y rfl (y_lss rfl rfl) ?_
    refine gl_nil ?_
    refine gq_then' ?_
    refine gc_seq ?_
    refine gc_if rfl (fun h6 => ?_) (fun h6 => ?_)
    · have g6 := h6
      try (replace g6 := of_decide_eq_true g6)
      first
      | exact absurd h6 (by decide)
      | (exfalso; omega)
      | skip
        refine gc_skip ?_
        refine gq_then' ?_
        refine gc_seq ?_
        refine gc_block ?_
        refine gc_seq ?_
        refine gc_region ?_
        refine gl_y rfl (y_move rfl) ?_
        refine gl_y rfl (y_assign rfl) ?_
        refine gl_nil ?_
        refine gq_then' ?_
        refine gc_seq ?_
        refine gc_region ?_
        refine gl_y rfl (y_move rfl) ?_
        first | refine gl_y rfl (y_conv Try.underlying3 Try.underlying61 rfl (wr_u32 (by omega) (by omega))) ?_ | refine gl_y rfl (y_conv Try.underlying3 Try.underlying61 rfl rfl) ?_
        refine gl_y rfl (y_assign rfl) ?_
        refine gl_nil ?_
        refine gq_then' ?_
        refine gc_seq ?_
        refine gc_seq ?_
        refine gc_region ?_
        refine gl_y rfl (y_move rfl) ?_
        refine gl_nil ?_
        refine gq_then' ?_
        refine gc_block ?_
        refine gc_loopW (α := Nat) [11, 12, 13, 4, 14, 15, 16, 17, 18, 19, 3, 20, 10] (fun (k : Nat) => [(10, .int .i64 (k : Int)), (3, .int .u32 (steps k i : Nat))]) (fun (k : Nat) => [cl b0 63 (List.replicate 256 (Value.int .u32 0)), cl b1 63 (tabTo i)]) (fun (k : Nat) => k ≤ 8) (fun (k : Nat) => 8 - k) 0 ?_ perm_same ?_ ?_
        · exact Nat.zero_le _
        · exact ⟨rfl, rfl, trivial⟩
        · rintro k hk
          have hs := steps_lt k (c := i) (by omega)
          refine gc_seq ?_
          refine gc_region ?_
          refine gl_y rfl (y_lss rfl rfl) ?_
          refine gl_nil ?_
          refine gq_then' ?_
          refine gc_seq ?_
          refine gc_if rfl (fun h11 => ?_) (fun h11 => ?_)
          · have g11 := h11
            try (replace g11 := of_decide_eq_true g11)
            first
            | exact absurd h11 (by decide)
            | (exfalso; omega)
            | skip
              refine gc_skip ?_
              refine gq_then' ?_
              refine gc_seq ?_
              refine gc_block ?_
              refine gc_seq ?_
              refine gc_region ?_
              refine gl_y rfl (y_move rfl) ?_
              refine gl_y rfl (y_and rfl rfl (and_one _ hs)) ?_
              refine gl_y rfl (y_assign rfl) ?_
              refine gl_nil ?_
              refine gq_then' ?_
              refine gc_region ?_
              refine gl_y rfl (y_move rfl) ?_
              refine gl_y rfl (y_shr rfl rfl (by omega) (shr_one _)) ?_
              refine gl_y rfl (y_move rfl) ?_
              refine gl_y rfl (y_neg rfl (neg_odd _)) ?_
              refine gl_y rfl (y_and rfl rfl (and_poly _)) ?_
              refine gl_y rfl (y_xor rfl rfl (xor_step _ hs)) ?_
              refine gl_y rfl (y_assign rfl) ?_
              refine gl_nil ?_
              refine gq_in_normal ?_
              refine gq_then' ?_
              refine gc_region ?_
              first | refine gl_y rfl (y_add rfl rfl (wr_i64 (by omega) (by omega))) ?_ | refine gl_y rfl (y_add rfl rfl rfl) ?_
              refine gl_y rfl (y_move rfl) ?_
              refine gl_nil ?_
              refine gq_roundW (k + 1) ?_ ?_ perm_same rfl (by repeat (first | exact Ext.refl | refine Ext.cons rfl ?_)) ?_
              · omega
              · (show 8 - (k + 1) < 8 - k); omega
              · exact ⟨rfl, congrArg (fun n : Nat => some (Value.int .u32 (n : Int))) (steps_snoc k i).symm, trivial⟩
          · have g11 := h11
            try (replace g11 := of_decide_eq_false g11)
            first
            | exact absurd h11 (by decide)
            | (exfalso; omega)
            | skip
              refine gc_exit ?_
              refine gq_pass_exit ?_
              refine gq_pass_exit ?_
              refine gq_in_exit ?_
              refine gq_then' ?_
              refine gc_region ?_
              refine gl_y rfl (y_move rfl) ?_
              refine gl_y rfl (y_move rfl) ?_
              refine gl_y rfl (y_iaddr_arr Try.underlying63 sz_61 rfl rfl (by omega) (by omega)) ?_
              refine gl_ef (ef_store sz_61 rfl rfl rfl (i := 1) rfl (by first | rfl | exact blt_of (by first | omega | (simp only [List.length_append, List.length_cons, List.length_nil, List.length_take, List.length_drop, List.length_map, List.length_replicate, List.length_set, u8s_length, fx_length, fixed_length, tabTo_len, tabV_len]; omega)))) ?_
              rintro _ _ _ ⟨rfl, rfl, rfl⟩
              refine gl_nil ?_
              refine gq_in_normal ?_
              refine gq_then' ?_
              refine gc_region ?_
              first | refine gl_y rfl (y_add rfl rfl (wr_i64 (by omega) (by omega))) ?_ | refine gl_y rfl (y_add rfl rfl rfl) ?_
              refine gl_y rfl (y_move rfl) ?_
              refine gl_nil ?_
              obtain rfl : k = 8 := by omega
              refine gq_M (congrArg (fun l => [_, cl b1 63 l]) (tabTo_set i (by omega))) ?_
              refine gq_roundW (i + 1) ?_ ?_ perm_same rfl (by repeat (first | exact Ext.refl | refine Ext.cons rfl ?_)) ?_
              · omega
              · (show 256 - (i + 1) < 256 - i); omega
              · exact ⟨rfl, trivial⟩
    · have g6 := h6
      try (replace g6 := of_decide_eq_false g6)
      first
      | exact absurd h6 (by decide)
      | (exfalso; omega)
      | skip
        refine gc_exit ?_
        refine gq_pass_exit ?_
        refine gq_pass_exit ?_
        refine gq_in_exit ?_
        refine gq_then' ?_
        refine gc_seq ?_
        obtain rfl : i = 256 := by omega
        refine gc_M (congrArg (fun l => [_, cl b1 63 l]) tabTo_all) ?_
        refine gc_region ?_
        refine gl_y rfl (y_loadA ag_63 sz_63 rfl (blk_own (i := 1) rfl) (vs := tabV) tabV_len (at_all tabV)) ?_
        refine gl_ef (ef_storeA sz_63 rfl (vs := tabV) rfl tabV_len tabV_one (i := 0) rfl (by rw [tabV_len, List.length_replicate]; rfl)) ?_
        rintro _ _ _ ⟨rfl, rfl, rfl⟩
        rw [setAt_tab _ (List.length_replicate ..)]
        refine gl_nil ?_
        refine gq_then' ?_
        refine gc_ret ?_
        refine gq_rv1 rfl (rv_cellB rfl ag_63 sz_63 (blk_own (i := 0) rfl) tabV_len) (PH.le_refl _) perm_all ?_
        rfl
end Go.Proofs.YtnccebppgmnmfaaS
