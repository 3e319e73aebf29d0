/- build: strings.Builder, WriteString and String. -/
import Derived.Test.YtnccebppgmnmfaaSepFacts
import Derived.Test.YtnccebppgmnmfaaSepQ
import Derived.Test.YtnccebppgmnmfaaSepM
import Derived.Test.YtnccebppgmnmfaaXDisk
set_option linter.unusedVariables false
set_option linter.unusedSimpArgs false
set_option maxRecDepth 20000
namespace Go.Proofs.YtnccebppgmnmfaaS
open Go.RowKit Go.Proofs

abbrev bld1 (b : Nat) (x : By) : Ent := bld 200 5 b x

theorem bld_check1 {I : PH} (b : Nat) (v : Value) : Ctr Try.prog 199 [.pointer (some ⟨b, 0, none⟩)] I [cl b 200 [.pointer none, v]] (fun _ M1 M' => M' = [cl b 200 [.pointer (some ⟨b, 0, none⟩), v]]) := by
  refine ctr_of Try.func199 rfl (n := 20) rfl rfl ?_
  intro G R
  simp only [argL]
  refine gc_seq ?_
  refine gc_region ?_
  refine gl_y rfl (y_move rfl) ?_
  refine gl_y rfl (y_nilck rfl) ?_
  refine gl_y rfl (y_faddr fo_200_0 rfl) ?_
  refine gl_y rfl (y_load ag_198 rfl (blk_own (i := 0) rfl) rfl) ?_
  refine gl_y rfl (y_peqnil_t Try.underlying198 rfl) ?_
  refine gl_nil ?_
  refine gq_then' ?_
  refine gc_t rfl rfl ?_
  refine gc_region ?_
  refine gl_y rfl (y_move rfl) ?_
  refine gl_y rfl (y_move rfl) ?_
  refine gl_y rfl (y_tounsafe Try.underlying198 Try.underlying326 sz_200 rfl (i := 0) rfl (Nat.succ_pos _)) ?_
  refine gl_y rfl (y_noescape Try.func246 (by kernel_rfl) (by kernel_rfl) (by kernel_rfl) (by kernel_rfl) rfl) ?_
  refine gl_y rfl (y_fromunsafe Try.underlying326 Try.underlying198 sz_200 rfl (i := 0) rfl (m := 2) rfl (by kernel_rfl)) ?_
  refine gl_y rfl (y_nilck rfl) ?_
  refine gl_y rfl (y_faddr fo_200_0 rfl) ?_
  refine gl_ef (ef_store sz_198 rfl rfl rfl (i := 0) rfl (by first | rfl | exact blt_of (by first | omega | (simp only [List.length_append, List.length_cons, List.length_nil, List.length_take, List.length_drop, List.length_map, List.length_replicate, List.length_set, u8s_length, fx_length, fixed_length, tabTo_len, tabV_len]; omega)))) ?_
  rintro _ _ _ ⟨rfl, rfl, rfl⟩
  refine gl_nil ?_
  refine gq_e0 rfl perm_same ?_
  exact rfl
theorem bld_check2 {I : PH} (b : Nat) (v : Value) : Ctr Try.prog 199 [.pointer (some ⟨b, 0, none⟩)] I [cl b 200 [.pointer (some ⟨b, 0, none⟩), v]] (fun _ M1 M' => M' = [cl b 200 [.pointer (some ⟨b, 0, none⟩), v]]) := by
  refine ctr_of Try.func199 rfl (n := 20) rfl rfl ?_
  intro G R
  simp only [argL]
  refine gc_seq ?_
  refine gc_region ?_
  refine gl_y rfl (y_move rfl) ?_
  refine gl_y rfl (y_nilck rfl) ?_
  refine gl_y rfl (y_faddr fo_200_0 rfl) ?_
  refine gl_y rfl (y_load ag_198 rfl (blk_own (i := 0) rfl) rfl) ?_
  refine gl_y rfl (y_peqnil_f Try.underlying198 rfl) ?_
  refine gl_nil ?_
  refine gq_then' ?_
  refine gc_f rfl rfl ?_
  refine gc_seq ?_
  refine gc_region ?_
  refine gl_y rfl (y_move rfl) ?_
  refine gl_y rfl (y_nilck rfl) ?_
  refine gl_y rfl (y_faddr fo_200_0 rfl) ?_
  refine gl_y rfl (y_load ag_198 rfl (blk_own (i := 0) rfl) rfl) ?_
  refine gl_y rfl (y_move rfl) ?_
  refine gl_y rfl (y_pneq_same Try.underlying198 sz_200 rfl rfl) ?_
  refine gl_nil ?_
  refine gq_then' ?_
  refine gc_f rfl rfl ?_
  refine gc_skip ?_
  refine gq_e0 rfl perm_same ?_
  exact rfl

theorem bld_check {I : PH} (b : Nat) (v : Value) (u : Bool) : Ctr Try.prog 199 [.pointer (some ⟨b, 0, none⟩)] I [cl b 200 [adr b u, v]] (fun _ _ M' => M' = [cl b 200 [.pointer (some ⟨b, 0, none⟩), v]]) := by
  cases u
  · exact bld_check1 b v
  · exact bld_check2 b v

theorem bld_Write {I : PH} (b : Nat) (x l : By) (hl : x.length + l.length ≤ 140737488355328) : Ctr Try.prog 119 [.pointer (some ⟨b, 0, none⟩), .string (bs l)] I [bld1 b x] (fun v _ M' => v = .tuple #[.int .i64 l.length, .nilIface] ∧ M' = [bld1 b (x ++ l)]) := by
  refine ctr_of Try.func119 rfl (n := 19) rfl rfl ?_
  intro G R
  simp only [argL]
  refine gc_unhid 0 rfl ?_
  rintro ⟨v, u⟩
  refine gc_seq ?_
  refine gc_region ?_
  refine gl_y rfl (y_assign rfl) ?_
  refine gl_y rfl (y_assign rfl) ?_
  refine gl_nil ?_
  refine gq_then' ?_
  refine gc_seq ?_
  refine gc_region ?_
  refine gl_y rfl (y_move rfl) ?_
  refine gl_ef (ef_callm en_199 rfl (bld_check b v u) (perm_one (i := 0) rfl) rfl) ?_
  rintro _ _ _ ⟨v7, Mc7, rfl, rfl, rfl, rfl⟩
  refine gl_nil ?_
  refine gq_then' ?_
  refine gc_seq ?_
  refine gc_region ?_
  refine gl_y rfl (y_move rfl) ?_
  refine gl_y rfl (y_move rfl) ?_
  refine gl_y rfl (y_nilck rfl) ?_
  refine gl_y rfl (y_faddr fo_200_1 rfl) ?_
  refine gl_y rfl (y_load ag_36 rfl (blk_own (i := 0) rfl) rfl) ?_
  refine gl_y rfl (y_move rfl) ?_
  refine gl_ef (ef_append_str Try.underlying36 Try.underlying9 tf_5 rfl (i := 1) rfl rfl (by first | omega | (simp only [List.length_append, List.length_cons, List.length_nil, List.length_take, List.length_drop, List.length_map, List.length_replicate, List.length_set, u8s_length, fx_length, fixed_length, tabTo_len, tabV_len]; omega)) rfl) ?_
  rintro _ _ _ ⟨v14, rfl, rfl, rfl⟩
  refine gl_says 1 rfl osl_one ?_
  rintro ho
  refine gl_y rfl (y_nilck rfl) ?_
  refine gl_y rfl (y_faddr fo_200_1 rfl) ?_
  refine gl_ef (ef_store sz_36 rfl rfl ho (i := 0) rfl (by first | rfl | exact blt_of (by first | omega | (simp only [List.length_append, List.length_cons, List.length_nil, List.length_take, List.length_drop, List.length_map, List.length_replicate, List.length_set, u8s_length, fx_length, fixed_length, tabTo_len, tabV_len]; omega)))) ?_
  rintro _ _ _ ⟨rfl, rfl, rfl⟩
  refine gl_nil ?_
  refine gq_then' ?_
  refine gc_seq ?_
  refine gc_region ?_
  refine gl_y rfl (y_move rfl) ?_
  refine gl_y rfl (y_slen Try.underlying9 rfl) ?_
  refine gl_y rfl (y_assign rfl) ?_
  refine gl_y rfl (y_assign rfl) ?_
  refine gl_nil ?_
  refine gq_then' ?_
  refine gc_ret ?_
  refine gq_M (congrArg (fun e => _ :: e :: _) (osl_u8s (bytes := x ++ l) (by simp) (u8s_append x l).symm)) ?_
  refine gq_hid (N := bldN 200 5 b (x ++ l)) (v14, true) perm_same ?_
  refine gq_r2 rfl rfl rfl perm_same ?_
  exact ⟨rfl, rfl⟩
theorem bld_String {I : PH} (b : Nat) (x : By) (hx : x.length ≤ 140737488355328) : Ctr Try.prog 124 [.pointer (some ⟨b, 0, none⟩)] I [bld1 b x] (fun v _ M' => v = .string (bs x) ∧ M' = []) := by
  refine ctr_of Try.func124 rfl (n := 14) rfl rfl ?_
  intro G R
  simp only [argL]
  refine gc_unhid 0 rfl ?_
  rintro ⟨v, u⟩
  refine gc_says 1 rfl osl_slice ?_
  rintro ⟨A, c, rfl⟩
  refine gc_seq ?_
  refine gc_region ?_
  refine gl_y rfl (y_assign rfl) ?_
  refine gl_nil ?_
  refine gq_then' ?_
  refine gc_seq ?_
  refine gc_region_draw (N := 12) [(b, [adr b u, .slice A x.length c])] rfl follows_mixed (by repeat (first | exact panicOk_body | refine panicOk_then ?_ | refine panicOk_in ?_)) (by kernel_rfl) ?_ ?_
  · exact ⟨blk_own (i := 0) rfl, trivial⟩
  · skip
    refine ga_y 0 rfl (by kernel_rfl) (by kernel_rfl) rfl (y_move rfl) ?_
    refine ga_y 1 rfl (by kernel_rfl) (by kernel_rfl) rfl (y_nilck rfl) ?_
    refine ga_y 2 rfl (by kernel_rfl) (by kernel_rfl) rfl (y_faddr fo_200_1 rfl) ?_
    refine ga_y 3 rfl (by kernel_rfl) (by kernel_rfl) rfl (y_load ag_36 rfl (blk_S (k := 0) rfl) rfl) ?_
    refine ga_y 5 rfl (by kernel_rfl) (by kernel_rfl) rfl (y_move rfl) ?_
    refine ga_y 6 rfl (by kernel_rfl) (by kernel_rfl) rfl (y_nilck rfl) ?_
    refine ga_y 7 rfl (by kernel_rfl) (by kernel_rfl) rfl (y_faddr fo_200_1 rfl) ?_
    refine ga_y 8 rfl (by kernel_rfl) (by kernel_rfl) rfl (y_load ag_36 rfl (blk_S (k := 0) rfl) rfl) ?_
    refine ga_y 9 rfl (by kernel_rfl) (by kernel_rfl) rfl (y_len Try.underlying36 rfl) ?_
    refine ga_all1 (i := 4) (by kernel_rfl) ?_
    · skip
      refine gb_ef rfl (ef_sdata Try.underlying292 rfl (i := 1) rfl rfl) ?_
      rintro _ _ _ ⟨p7, hp7, rfl, rfl, rfl⟩
      refine ⟨sat_S ⟨blk_own (i := 0) rfl, trivial⟩, ?_⟩
      refine ga_all1 (i := 10) (by kernel_rfl) ?_
      · skip
        refine gb_ef rfl (ef_ustr Try.underlying292 (by kernel_rfl) rfl rfl hp7 (i := 1) rfl (by first | omega | (simp only [List.length_append, List.length_cons, List.length_nil, List.length_take, List.length_drop, List.length_map, List.length_replicate, List.length_set, u8s_length, fx_length, fixed_length, tabTo_len, tabV_len]; omega)) rfl) ?_
        rintro _ _ _ ⟨rfl, rfl, rfl⟩
        refine ⟨sat_S ⟨blk_own (i := 0) rfl, trivial⟩, ?_⟩
        refine ga_y 11 rfl (by kernel_rfl) (by kernel_rfl) rfl (y_assign rfl) ?_
        refine ga_done (by kernel_rfl) ?_
        refine gq_then' ?_
        refine gc_ret ?_
        refine gq_r1 rfl rfl perm_all ?_
        exact ⟨rfl, rfl⟩
end Go.Proofs.YtnccebppgmnmfaaS
