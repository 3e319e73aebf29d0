/- keys: how a tuple is read out of bytes. -/
import Derived.Test.YtgoaclokjenpkaaDoorSepFacts
import Derived.Test.YtgoaclokjenpkaaDoorSepQ
import Derived.Test.YtgoaclokjenpkaaDoorSepI
import Derived.Test.YtgoaclokjenpkaaDoorKeysD
import Derived.Test.YtgoaclokjenpkaaDoorXKeys
import Derived.Test.YtgoaclokjenpkaaDoorXPrim2
set_option linter.unusedVariables false
set_option linter.unusedSimpArgs false
set_option maxRecDepth 20000
namespace Go.Proofs.YtgoaclokjenpkaaDoorS
open Go.RowKit Go.Proofs

def textV (s : List UInt8) : Value := match textD s with | some p => .tuple #[.string (bs p.1), .int .i64 (p.2 : Int)] | none => .tuple #[.string (bs []), .int .i64 (-1)]
def plainV (s : List UInt8) : Value := match plainD s with | some p => .tuple #[p.1.val, .int .i64 (p.2 : Int)] | none => .tuple #[.nilIface, .int .i64 0]
/-- Where the loop stands: i bytes are done, o is the text so far. -/
def TextAt (s o : List UInt8) (i : Nat) : Prop := i ≤ s.length ∧ o.length ≤ i ∧ textD s = (textD (s.drop i)).map fun p => (o ++ p.1, p.2 + i)
theorem TextAt.zero (s : List UInt8) : TextAt s [] 0 := ⟨Nat.zero_le _, Nat.le_refl _, by simp⟩
theorem TextAt.one {s o : List UInt8} {i : Nat} (h : TextAt s o i) (hi : i < s.length) (hc : at8 s (i : Int) ≠ 0) : TextAt s (o ++ [at8 s (i : Int)]) (i + 1) := by
  refine ⟨by omega, by have := h.2.1; simp; omega, ?_⟩
  rw [h.2.2, at8_drop s i hi, textD_step _ _ hc, Option.map_map]
  congr 1; funext p; simp; omega
theorem TextAt.two {s o : List UInt8} {i : Nat} (h : TextAt s o i) (hi : i + 1 < s.length) (hc : at8 s (i : Int) = 0) (hd : at8 s ((i : Int) + 1) = 255) : TextAt s (o ++ [0]) (i + 2) := by
  have hd' : at8 s ((i + 1 : Nat) : Int) = 255 := by simpa using hd
  refine ⟨by omega, by have := h.2.1; simp; omega, ?_⟩
  rw [h.2.2, at8_drop s i (by omega), at8_drop s (i + 1) hi, hc, hd']
  simp only [textD, ne_eq, not_true_eq_false, if_false]
  rw [if_neg (by decide), if_pos trivial, Option.map_map]
  congr 1; funext p; simp; omega
theorem TextAt.done {s o : List UInt8} {i : Nat} (h : TextAt s o i) (hi : i + 1 < s.length) (hc : at8 s (i : Int) = 0) (hd : at8 s ((i : Int) + 1) = 0) : textV s = .tuple #[.string (bs o), .int .i64 ((i : Int) + 1 + 1)] := by
  have hd' : at8 s ((i + 1 : Nat) : Int) = 0 := by simpa using hd
  have e : textD s = some (o, i + 2) := by
    rw [h.2.2, at8_drop s i (by omega), at8_drop s (i + 1) hi, hc, hd']
    simp [textD]; omega
  simp only [textV, e]
  have : ((i + 2 : Nat) : Int) = (i : Int) + 1 + 1 := by omega
  rw [this]
theorem TextAt.bad {s o : List UInt8} {i : Nat} (h : TextAt s o i) (hi : i < s.length) (hc : at8 s (i : Int) = 0) (hd : s.length ≤ i + 1 ∨ (at8 s ((i : Int) + 1) ≠ 0 ∧ at8 s ((i : Int) + 1) ≠ 255)) : textV s = .tuple #[.string (bs []), .int .i64 (-1)] := by
  have e : textD s = none := by
    rw [h.2.2, at8_drop s i hi, hc]
    by_cases e : s.length ≤ i + 1
    · rw [List.drop_eq_nil_of_le (by omega)]; rfl
    · have hd := hd.resolve_left e
      have hd1 : at8 s ((i + 1 : Nat) : Int) ≠ 0 := by simpa using hd.1
      have hd2 : at8 s ((i + 1 : Nat) : Int) ≠ 255 := by simpa using hd.2
      rw [at8_drop s (i + 1) (by omega)]
      simp only [textD, ne_eq, not_true_eq_false, if_false, if_neg hd1, if_neg hd2]
      rfl
  simp only [textV, e]
theorem TextAt.end {s o : List UInt8} {i : Nat} (h : TextAt s o i) (hi : ¬ i < s.length) : textV s = .tuple #[.string (bs []), .int .i64 (-1)] := by
  have e : textD s = none := by rw [h.2.2, List.drop_eq_nil_of_le (by omega)]; rfl
  simp only [textV, e]
theorem osl_snoc8 (e : Nat) (v : Value) (o : List UInt8) (c : UInt8) : osl e 1 v (o.length + 1) (u8s o ++ [.int .u8 (c.toNat : Int)]) = osl e 1 v (o ++ [c]).length (u8s (o ++ [c])) := by
  simp [u8s, u8v]
theorem u8_ne {c : UInt8} {n : Nat} (hn : n < 256) (h : (c.toNat : Int) ≠ n) : c ≠ UInt8.ofNat n := fun e => h (by subst e; simp [UInt8.toNat_ofNat']; omega)
theorem u8_eq {c : UInt8} {n : Nat} (hn : n < 256) (h : (c.toNat : Int) = n) : c = UInt8.ofNat n := UInt8.toNat_inj.1 (by simp [UInt8.toNat_ofNat']; omega)

theorem keys_text (s : List UInt8) (hs : s.length ≤ 1000000) : CtrP Tryd.prog 29 [.string (bs s)] (fun v => v = textV s) := by
  refine CtrP.of fun I => ?_
  refine ctr_of Tryd.func29 rfl (n := 53) rfl rfl ?_
  intro G R
  simp only [argL]
  refine gc_seq ?_
  refine gc_region ?_
  refine gl_y rfl (y_assign rfl) ?_
  refine gl_y rfl (y_assign rfl) ?_
  refine gl_nil ?_
  refine gq_then' ?_
  refine gc_seq ?_
  refine gc_region ?_
  refine gl_y rfl (y_assign rfl) ?_
  refine gl_nilslice 5 1 ?_
  refine gl_nil ?_
  refine gq_then' ?_
  refine gc_seq ?_
  refine gc_seq ?_
  refine gc_region ?_
  refine gl_y rfl (y_assign rfl) ?_
  refine gl_nil ?_
  refine gq_then' ?_
  refine gc_block ?_
  refine gc_loopW (α := Nat × List UInt8 × Value) [6, 7, 8, 9, 12, 13, 14, 15, 16, 17, 18, 19, 20, 21, 4, 22, 23, 5, 25, 26, 27, 28, 29, 30, 31, 32, 33, 34, 24, 35, 36, 37, 38, 2, 3, 40, 41, 42, 43, 44, 45, 46, 47, 48, 49, 39, 50, 51, 52, 10, 11] (fun (⟨i, o, v⟩ : Nat × List UInt8 × Value) => [(5, .int .i64 (i : Int)), (4, v)]) (fun (⟨i, o, v⟩ : Nat × List UInt8 × Value) => [osl 5 1 v o.length (u8s o)]) (fun (⟨i, o, v⟩ : Nat × List UInt8 × Value) => TextAt s o i) (fun (⟨i, o, v⟩ : Nat × List UInt8 × Value) => s.length - i) (0, [], .slice none 0 0) ?_ perm_same ?_ ?_
  · exact TextAt.zero s
  · exact ⟨rfl, rfl, trivial⟩
  · rintro ⟨i, o, v⟩ hT
    have hT1 := hT.1
    have hT2 := hT.2.1
    refine gc_seq ?_
    refine gc_seq ?_
    refine gc_region ?_
    refine gl_y rfl (y_move rfl) ?_
    refine gl_y rfl (y_move rfl) ?_
    refine gl_y rfl (y_slen Tryd.underlying9 rfl) ?_
    refine gl_y rfl (y_lss rfl rfl) ?_
    refine gl_nil ?_
    refine gq_then' ?_
    refine gc_if rfl (fun h9 => ?_) (fun h9 => ?_)
    · have g9 := h9
      try (replace g9 := of_decide_eq_true g9)
      first
      | exact absurd h9 (by decide)
      | (exfalso; omega)
      | skip
        refine gc_skip ?_
        refine gq_then' ?_
        refine gc_seq ?_
        refine gc_block ?_
        refine gc_seq ?_
        refine gc_seq ?_
        refine gc_region ?_
        refine gl_y rfl (y_move rfl) ?_
        refine gl_y rfl (y_move rfl) ?_
        refine gl_y rfl (y_sat Tryd.underlying9 rfl rfl (by omega) (by first | omega | (simp only [List.length_append, List.length_cons, List.length_nil, List.length_take, List.length_drop, List.length_map, List.length_replicate, List.length_set, u8s_length, fx_length, fixed_length, turn_length]; omega))) ?_
        refine gl_y rfl (y_neq rfl rfl) ?_
        refine gl_nil ?_
        refine gq_then' ?_
        refine gc_if rfl (fun h15 => ?_) (fun h15 => ?_)
        · have g15 := h15
          try (replace g15 := of_decide_eq_true g15)
          first
          | exact absurd h15 (by decide)
          | (exfalso; omega)
          | skip
            refine gc_seq ?_
            refine gc_region ?_
            refine gl_y rfl (y_move rfl) ?_
            refine gl_y rfl (y_move rfl) ?_
            refine gl_y rfl (y_move rfl) ?_
            refine gl_y rfl (y_sat Tryd.underlying9 rfl rfl (by omega) (by first | omega | (simp only [List.length_append, List.length_cons, List.length_nil, List.length_take, List.length_drop, List.length_map, List.length_replicate, List.length_set, u8s_length, fx_length, fixed_length, turn_length]; omega))) ?_
            refine gl_ef (ef_buildSlice Tryd.underlying39 sz_5 zr_5 rfl rfl rfl (cs := [_]) (zl := [_]) rfl rfl rfl rfl) ?_
            rintro _ _ _ ⟨b20, rfl, rfl, rfl⟩
            refine gl_ef (ef_append Tryd.underlying39 tf_5 rfl (i := 0) rfl rfl (src_all (blk_own (i := 1) rfl)) rfl rfl (by first | omega | (simp only [List.length_append, List.length_cons, List.length_nil, List.length_take, List.length_drop, List.length_map, List.length_replicate, List.length_set, u8s_length, fx_length, fixed_length, turn_length]; omega)) (by first | omega | (simp only [List.length_append, List.length_cons, List.length_nil, List.length_take, List.length_drop, List.length_map, List.length_replicate, List.length_set, u8s_length, fx_length, fixed_length, turn_length]; omega)) rfl) ?_
            rintro _ _ _ ⟨v21, rfl, rfl, rfl⟩
            refine gl_y rfl (y_assign rfl) ?_
            refine gl_nilslice 5 1 ?_
            refine gl_nil ?_
            refine gq_then' ?_
            refine gc_exit ?_
            refine gq_pass_exit ?_
            refine gq_in_exit ?_
            refine gq_then' ?_
            refine gc_region ?_
            refine gl_y rfl (y_move rfl) ?_
            first | refine gl_y rfl (y_add rfl rfl (wr_i64 (by omega) (by omega))) ?_ | refine gl_y rfl (y_add rfl rfl rfl) ?_
            refine gl_y rfl (y_assign rfl) ?_
            refine gl_nil ?_
            have ec := u8_ne (n := 0) (by decide) g15
            refine gq_M (congrArg (fun e => e :: _) (osl_snoc8 _ v21 o (at8 s (i : Int)))) ?_
            refine gq_roundW (x := (⟨i, o, v⟩ : Nat × List UInt8 × Value)) (i + 1, o ++ [at8 s (i : Int)], v21) ?_ ?_ (perm_one (i := 0) rfl) rfl (by repeat (first | exact Ext.refl | refine Ext.cons rfl ?_)) ?_
            · exact hT.one (by omega) ec
            · (show s.length - (i + 1) < s.length - i); omega
            · exact ⟨rfl, rfl, trivial⟩
        · have g15 := h15
          try (replace g15 := of_decide_eq_false g15)
          first
          | exact absurd h15 (by decide)
          | (exfalso; omega)
          | skip
            refine gc_skip ?_
            refine gq_then' ?_
            refine gc_seq ?_
            refine gc_region ?_
            refine gl_y rfl (y_move rfl) ?_
            first | refine gl_y rfl (y_add rfl rfl (wr_i64 (by omega) (by omega))) ?_ | refine gl_y rfl (y_add rfl rfl rfl) ?_
            refine gl_y rfl (y_assign rfl) ?_
            refine gl_nil ?_
            refine gq_then' ?_
            refine gc_seq ?_
            refine gc_block ?_
            refine gc_seq ?_
            refine gc_region ?_
            refine gl_y rfl (y_move rfl) ?_
            refine gl_y rfl (y_move rfl) ?_
            refine gl_y rfl (y_slen Tryd.underlying9 rfl) ?_
            refine gl_y rfl (y_lss rfl rfl) ?_
            refine gl_y rfl (y_move rfl) ?_
            refine gl_if (t := 29) rfl (fun h29 => ?_) (fun h29 => ?_)
            · have g29 := h29
              try (replace g29 := of_decide_eq_true g29)
              first
              | exact absurd h29 (by decide)
              | (exfalso; omega)
              | skip
                refine gl_want rfl rfl rfl h29 ?_
                refine gl_y rfl (y_move rfl) ?_
                refine gl_want rfl rfl rfl h29 ?_
                refine gl_y rfl (y_move rfl) ?_
                refine gl_want rfl rfl rfl h29 ?_
                refine gl_y rfl (y_sat Tryd.underlying9 rfl rfl (by omega) (by first | omega | (simp only [List.length_append, List.length_cons, List.length_nil, List.length_take, List.length_drop, List.length_map, List.length_replicate, List.length_set, u8s_length, fx_length, fixed_length, turn_length]; omega))) ?_
                refine gl_want rfl rfl rfl h29 ?_
                refine gl_y rfl (y_eql rfl rfl) ?_
                refine gl_y rfl (y_pick_t rfl h29 rfl) ?_
                refine gl_y rfl (y_assign rfl) ?_
                refine gl_nil ?_
                refine gq_then' ?_
                refine gc_if rfl (fun h24 => ?_) (fun h24 => ?_)
                · have g24 := h24
                  try (replace g24 := of_decide_eq_true g24)
                  first
                  | exact absurd h24 (by decide)
                  | (exfalso; omega)
                  | skip
                    refine gc_seq ?_
                    refine gc_region ?_
                    refine gl_y rfl (y_move rfl) ?_
                    refine gl_y rfl (y_tostr_own Tryd.underlying39 Tryd.underlying5 Tryd.underlying9 rfl (i := 0) rfl) ?_
                    refine gl_y rfl (y_move rfl) ?_
                    first | refine gl_y rfl (y_add rfl rfl (wr_i64 (by omega) (by omega))) ?_ | refine gl_y rfl (y_add rfl rfl rfl) ?_
                    refine gl_y rfl (y_assign rfl) ?_
                    refine gl_y rfl (y_assign rfl) ?_
                    refine gl_nil ?_
                    refine gq_then' ?_
                    refine gc_ret ?_
                    refine gq_in_ret ?_
                    refine gq_pass_ret ?_
                    refine gq_in_ret ?_
                    refine gq_pass_ret ?_
                    refine gq_pass_ret ?_
                    refine gq_in_ret ?_
                    refine gq_pass_ret ?_
                    refine gq_r2 rfl rfl rfl perm_all ?_
                    exact (hT.done (by omega) (u8_eq (c := at8 s (i : Int)) (n := 0) (by decide) (by omega)) (u8_eq (c := at8 s ((i : Int) + 1)) (n := 0) (by decide) (by omega))).symm
                · have g24 := h24
                  try (replace g24 := of_decide_eq_false g24)
                  first
                  | exact absurd h24 (by decide)
                  | (exfalso; omega)
                  | skip
                    refine gc_seq ?_
                    refine gc_region ?_
                    refine gl_y rfl (y_move rfl) ?_
                    refine gl_y rfl (y_move rfl) ?_
                    refine gl_y rfl (y_slen Tryd.underlying9 rfl) ?_
                    refine gl_y rfl (y_geq rfl rfl) ?_
                    refine gl_y rfl (y_move rfl) ?_
                    refine gl_if (t := 44) rfl (fun h44 => ?_) (fun h44 => ?_)
                    · have g44 := h44
                      try (replace g44 := of_decide_eq_true g44)
                      first
                      | exact absurd h44 (by decide)
                      | (exfalso; omega)
                      | skip
                        refine gl_skip rfl rfl rfl h44 rfl ?_
                        refine gl_skip rfl rfl rfl h44 rfl ?_
                        refine gl_skip rfl rfl rfl h44 rfl ?_
                        refine gl_skip rfl rfl rfl h44 rfl ?_
                        refine gl_y rfl (y_pick_t rfl h44 rfl) ?_
                        refine gl_y rfl (y_assign rfl) ?_
                        refine gl_nil ?_
                        refine gq_then' ?_
                        refine gc_t rfl rfl ?_
                        refine gc_seq ?_
                        refine gc_region ?_
                        refine gl_y rfl (y_assign rfl) ?_
                        refine gl_y rfl (y_assign rfl) ?_
                        refine gl_nil ?_
                        refine gq_then' ?_
                        refine gc_ret ?_
                        refine gq_in_ret ?_
                        refine gq_pass_ret ?_
                        refine gq_in_ret ?_
                        refine gq_pass_ret ?_
                        refine gq_pass_ret ?_
                        refine gq_in_ret ?_
                        refine gq_pass_ret ?_
                        refine gq_r2 rfl rfl rfl perm_all ?_
                        exact rfl
                    · have g44 := h44
                      try (replace g44 := of_decide_eq_false g44)
                      first
                      | exact absurd h44 (by decide)
                      | (exfalso; omega)
                      | skip
                        refine gl_want rfl rfl rfl h44 ?_
                        refine gl_y rfl (y_move rfl) ?_
                        refine gl_want rfl rfl rfl h44 ?_
                        refine gl_y rfl (y_move rfl) ?_
                        refine gl_want rfl rfl rfl h44 ?_
                        refine gl_y rfl (y_sat Tryd.underlying9 rfl rfl (by omega) (by first | omega | (simp only [List.length_append, List.length_cons, List.length_nil, List.length_take, List.length_drop, List.length_map, List.length_replicate, List.length_set, u8s_length, fx_length, fixed_length, turn_length]; omega))) ?_
                        refine gl_want rfl rfl rfl h44 ?_
                        refine gl_y rfl (y_neq rfl rfl) ?_
                        refine gl_y rfl (y_pick_f rfl h44 rfl) ?_
                        refine gl_y rfl (y_assign rfl) ?_
                        refine gl_nil ?_
                        refine gq_then' ?_
                        refine gc_if rfl (fun h39 => ?_) (fun h39 => ?_)
                        · have g39 := h39
                          try (replace g39 := of_decide_eq_true g39)
                          first
                          | exact absurd h39 (by decide)
                          | (exfalso; omega)
                          | skip
                            refine gc_seq ?_
                            refine gc_region ?_
                            refine gl_y rfl (y_assign rfl) ?_
                            refine gl_y rfl (y_assign rfl) ?_
                            refine gl_nil ?_
                            refine gq_then' ?_
                            refine gc_ret ?_
                            refine gq_in_ret ?_
                            refine gq_pass_ret ?_
                            refine gq_in_ret ?_
                            refine gq_pass_ret ?_
                            refine gq_pass_ret ?_
                            refine gq_in_ret ?_
                            refine gq_pass_ret ?_
                            refine gq_r2 rfl rfl rfl perm_all ?_
                            exact (hT.bad (by omega) (u8_eq (c := at8 s (i : Int)) (n := 0) (by decide) (by omega)) (.inr ⟨u8_ne (c := at8 s ((i : Int) + 1)) (n := 0) (by decide) (by omega), u8_ne (c := at8 s ((i : Int) + 1)) (n := 255) (by decide) (by omega)⟩)).symm
                        · have g39 := h39
                          try (replace g39 := of_decide_eq_false g39)
                          first
                          | exact absurd h39 (by decide)
                          | (exfalso; omega)
                          | skip
                            refine gc_skip ?_
                            refine gq_in_normal ?_
                            refine gq_then' ?_
                            refine gc_region ?_
                            refine gl_y rfl (y_move rfl) ?_
                            refine gl_ef (ef_buildSlice Tryd.underlying39 sz_5 zr_5 rfl rfl rfl (cs := [_]) (zl := [_]) rfl rfl rfl rfl) ?_
                            rintro _ _ _ ⟨b51, rfl, rfl, rfl⟩
                            refine gl_ef (ef_append Tryd.underlying39 tf_5 rfl (i := 0) rfl rfl (src_all (blk_own (i := 1) rfl)) rfl rfl (by first | omega | (simp only [List.length_append, List.length_cons, List.length_nil, List.length_take, List.length_drop, List.length_map, List.length_replicate, List.length_set, u8s_length, fx_length, fixed_length, turn_length]; omega)) (by first | omega | (simp only [List.length_append, List.length_cons, List.length_nil, List.length_take, List.length_drop, List.length_map, List.length_replicate, List.length_set, u8s_length, fx_length, fixed_length, turn_length]; omega)) rfl) ?_
                            rintro _ _ _ ⟨v52, rfl, rfl, rfl⟩
                            refine gl_y rfl (y_assign rfl) ?_
                            refine gl_nilslice 5 1 ?_
                            refine gl_nil ?_
                            refine gq_in_normal ?_
                            refine gq_then' ?_
                            refine gc_region ?_
                            refine gl_y rfl (y_move rfl) ?_
                            first | refine gl_y rfl (y_add rfl rfl (wr_i64 (by omega) (by omega))) ?_ | refine gl_y rfl (y_add rfl rfl rfl) ?_
                            refine gl_y rfl (y_assign rfl) ?_
                            refine gl_nil ?_
                            have ec := u8_eq (c := at8 s (i : Int)) (n := 0) (by decide) (by omega)
                            have ed := u8_eq (c := at8 s ((i : Int) + 1)) (n := 255) (by decide) (by omega)
                            refine gq_M (congrArg (fun e => e :: _) (osl_snoc8 _ v52 o 0)) ?_
                            refine gq_roundW (x := (⟨i, o, v⟩ : Nat × List UInt8 × Value)) (i + 2, o ++ [0], v52) ?_ ?_ (perm_one (i := 0) rfl) rfl (by repeat (first | exact Ext.refl | refine Ext.cons rfl ?_)) ?_
                            · exact hT.two (by omega) ec ed
                            · (show s.length - (i + 2) < s.length - i); omega
                            · exact ⟨by show some _ = _; congr 2, rfl, trivial⟩
            · have g29 := h29
              try (replace g29 := of_decide_eq_false g29)
              first
              | exact absurd h29 (by decide)
              | (exfalso; omega)
              | skip
                refine gl_skip rfl rfl rfl h29 rfl ?_
                refine gl_skip rfl rfl rfl h29 rfl ?_
                refine gl_skip rfl rfl rfl h29 rfl ?_
                refine gl_skip rfl rfl rfl h29 rfl ?_
                refine gl_y rfl (y_pick_f rfl h29 rfl) ?_
                refine gl_y rfl (y_assign rfl) ?_
                refine gl_nil ?_
                refine gq_then' ?_
                refine gc_f rfl rfl ?_
                refine gc_seq ?_
                refine gc_region ?_
                refine gl_y rfl (y_move rfl) ?_
                refine gl_y rfl (y_move rfl) ?_
                refine gl_y rfl (y_slen Tryd.underlying9 rfl) ?_
                refine gl_y rfl (y_geq rfl rfl) ?_
                refine gl_y rfl (y_move rfl) ?_
                refine gl_if (t := 44) rfl (fun h44 => ?_) (fun h44 => ?_)
                · have g44 := h44
                  try (replace g44 := of_decide_eq_true g44)
                  first
                  | exact absurd h44 (by decide)
                  | (exfalso; omega)
                  | skip
                    refine gl_skip rfl rfl rfl h44 rfl ?_
                    refine gl_skip rfl rfl rfl h44 rfl ?_
                    refine gl_skip rfl rfl rfl h44 rfl ?_
                    refine gl_skip rfl rfl rfl h44 rfl ?_
                    refine gl_y rfl (y_pick_t rfl h44 rfl) ?_
                    refine gl_y rfl (y_assign rfl) ?_
                    refine gl_nil ?_
                    refine gq_then' ?_
                    refine gc_t rfl rfl ?_
                    refine gc_seq ?_
                    refine gc_region ?_
                    refine gl_y rfl (y_assign rfl) ?_
                    refine gl_y rfl (y_assign rfl) ?_
                    refine gl_nil ?_
                    refine gq_then' ?_
                    refine gc_ret ?_
                    refine gq_in_ret ?_
                    refine gq_pass_ret ?_
                    refine gq_in_ret ?_
                    refine gq_pass_ret ?_
                    refine gq_pass_ret ?_
                    refine gq_in_ret ?_
                    refine gq_pass_ret ?_
                    refine gq_r2 rfl rfl rfl perm_all ?_
                    exact (hT.bad (by omega) (u8_eq (c := at8 s (i : Int)) (n := 0) (by decide) (by omega)) (.inl (by omega))).symm
                · have g44 := h44
                  try (replace g44 := of_decide_eq_false g44)
                  first
                  | exact absurd h44 (by decide)
                  | (exfalso; omega)
                  | skip
                    refine gl_want rfl rfl rfl h44 ?_
                    refine gl_y rfl (y_move rfl) ?_
                    refine gl_want rfl rfl rfl h44 ?_
                    refine gl_y rfl (y_move rfl) ?_
                    refine gl_want rfl rfl rfl h44 ?_
                    refine gl_y rfl (y_sat Tryd.underlying9 rfl rfl (by omega) (by first | omega | (simp only [List.length_append, List.length_cons, List.length_nil, List.length_take, List.length_drop, List.length_map, List.length_replicate, List.length_set, u8s_length, fx_length, fixed_length, turn_length]; omega))) ?_
                    refine gl_want rfl rfl rfl h44 ?_
                    refine gl_y rfl (y_neq rfl rfl) ?_
                    refine gl_y rfl (y_pick_f rfl h44 rfl) ?_
                    refine gl_y rfl (y_assign rfl) ?_
                    refine gl_nil ?_
                    refine gq_then' ?_
                    refine gc_if rfl (fun h39 => ?_) (fun h39 => ?_)
                    · have g39 := h39
                      try (replace g39 := of_decide_eq_true g39)
                      first
                      | exact absurd h39 (by decide)
                      | (exfalso; omega)
                      | skip
                        refine gc_seq ?_
                        refine gc_region ?_
                        refine gl_y rfl (y_assign rfl) ?_
                        refine gl_y rfl (y_assign rfl) ?_
                        refine gl_nil ?_
                        refine gq_then' ?_
                        refine gc_ret ?_
                        refine gq_in_ret ?_
                        refine gq_pass_ret ?_
                        refine gq_in_ret ?_
                        refine gq_pass_ret ?_
                        refine gq_pass_ret ?_
                        refine gq_in_ret ?_
                        refine gq_pass_ret ?_
                        refine gq_r2 rfl rfl rfl perm_all ?_
                        exact rfl
                    · have g39 := h39
                      try (replace g39 := of_decide_eq_false g39)
                      first
                      | exact absurd h39 (by decide)
                      | (exfalso; omega)
                      | skip
                        refine gc_skip ?_
                        refine gq_in_normal ?_
                        refine gq_then' ?_
                        refine gc_region ?_
                        refine gl_y rfl (y_move rfl) ?_
                        refine gl_ef (ef_buildSlice Tryd.underlying39 sz_5 zr_5 rfl rfl rfl (cs := [_]) (zl := [_]) rfl rfl rfl rfl) ?_
                        rintro _ _ _ ⟨b51, rfl, rfl, rfl⟩
                        refine gl_ef (ef_append Tryd.underlying39 tf_5 rfl (i := 0) rfl rfl (src_all (blk_own (i := 1) rfl)) rfl rfl (by first | omega | (simp only [List.length_append, List.length_cons, List.length_nil, List.length_take, List.length_drop, List.length_map, List.length_replicate, List.length_set, u8s_length, fx_length, fixed_length, turn_length]; omega)) (by first | omega | (simp only [List.length_append, List.length_cons, List.length_nil, List.length_take, List.length_drop, List.length_map, List.length_replicate, List.length_set, u8s_length, fx_length, fixed_length, turn_length]; omega)) rfl) ?_
                        rintro _ _ _ ⟨v52, rfl, rfl, rfl⟩
                        refine gl_y rfl (y_assign rfl) ?_
                        refine gl_nilslice 5 1 ?_
                        refine gl_nil ?_
                        refine gq_in_normal ?_
                        refine gq_then' ?_
                        refine gc_region ?_
                        refine gl_y rfl (y_move rfl) ?_
                        first | refine gl_y rfl (y_add rfl rfl (wr_i64 (by omega) (by omega))) ?_ | refine gl_y rfl (y_add rfl rfl rfl) ?_
                        refine gl_y rfl (y_assign rfl) ?_
                        refine gl_nil ?_
                        have ec := u8_eq (c := at8 s (i : Int)) (n := 0) (by decide) (by omega)
                        have ed := u8_eq (c := at8 s ((i : Int) + 1)) (n := 255) (by decide) (by omega)
                        refine gq_M (congrArg (fun e => e :: _) (osl_snoc8 _ v52 o 0)) ?_
                        refine gq_roundW (x := (⟨i, o, v⟩ : Nat × List UInt8 × Value)) (i + 2, o ++ [0], v52) ?_ ?_ (perm_one (i := 0) rfl) rfl (by repeat (first | exact Ext.refl | refine Ext.cons rfl ?_)) ?_
                        · exact hT.two (by omega) ec ed
                        · (show s.length - (i + 2) < s.length - i); omega
                        · exact ⟨by show some _ = _; congr 2, rfl, trivial⟩
    · have g9 := h9
      try (replace g9 := of_decide_eq_false g9)
      first
      | exact absurd h9 (by decide)
      | (exfalso; omega)
      | skip
        refine gc_exit ?_
        refine gq_pass_exit ?_
        refine gq_pass_exit ?_
        refine gq_in_exit ?_
        refine gq_then' ?_
        refine gc_seq ?_
        refine gc_region ?_
        refine gl_y rfl (y_assign rfl) ?_
        refine gl_y rfl (y_assign rfl) ?_
        refine gl_nil ?_
        refine gq_then' ?_
        refine gc_ret ?_
        refine gq_r2 rfl rfl rfl perm_all ?_
        exact (hT.end (by omega)).symm

theorem plainV_cons (c : UInt8) (l : List UInt8) : plainV (c :: l) = if c = 0x10 then .tuple #[.nilIface, .int .i64 1] else if c = 0x20 then .tuple #[KIt.val .no, .int .i64 1] else if c = 0x21 then .tuple #[KIt.val .yes, .int .i64 1]
    else if c = 0x30 then (if l.length < 8 then .tuple #[.nilIface, .int .i64 0] else .tuple #[KIt.val (.int ((val (l.take 8) : Int) - 9223372036854775808)), .int .i64 9])
    else if c = 0x40 then (if l.length < 8 then .tuple #[.nilIface, .int .i64 0] else .tuple #[KIt.val (.uint (val (l.take 8))), .int .i64 9])
    else if c = 0x50 then (match textD l with | some p => .tuple #[KIt.val (.text p.1), .int .i64 ((p.2 : Int) + 1)] | none => .tuple #[.nilIface, .int .i64 0]) else .tuple #[.nilIface, .int .i64 0] := by
  by_cases h1 : c = 0x10
  · subst h1; rfl
  by_cases h2 : c = 0x20
  · subst h2; rfl
  by_cases h3 : c = 0x21
  · subst h3; rfl
  by_cases h4 : c = 0x30
  · subst h4
    by_cases hl : l.length < 8 <;> simp [plainV, plainD, hl]
  by_cases h5 : c = 0x40
  · subst h5
    by_cases hl : l.length < 8 <;> simp [plainV, plainD, hl]
  by_cases h6 : c = 0x50
  · subst h6
    cases ht : textD l <;> simp [plainV, plainD, ht]
  · simp [plainV, plainD, h1, h2, h3, h4, h5, h6]
theorem val8 (l : List UInt8) : val (l.take 8) < 2 ^ 64 := by
  refine Nat.lt_of_lt_of_le (val_lt _) ?_
  have : (2 : Nat) ^ 64 = 256 ^ 8 := by decide
  rw [this]; exact Nat.pow_le_pow_right (by decide) (by simp; omega)
theorem textV_ex (l : List UInt8) : ∃ (t : List UInt8) (k : Int), textV l = .tuple #[.string (bs t), .int .i64 k] ∧ -1 ≤ k ∧ k ≤ l.length ∧ ((k = -1 ∧ textD l = none) ∨ (0 ≤ k ∧ textD l = some (t, k.toNat))) := by
  cases h : textD l with
  | none => exact ⟨[], -1, by simp only [textV, h], by omega, by omega, .inl ⟨rfl, rfl⟩⟩
  | some p =>
    have := (textD_sound l.length l p.1 p.2 (Nat.le_refl _) h).1
    exact ⟨p.1, p.2, by simp only [textV, h], by omega, by omega, .inr ⟨by omega, by simp⟩⟩
theorem takeB_eight (l : List UInt8) : takeB l false 8 = if l.length < 8 then ([], l, true) else (l.take 8, l.drop 8, false) := by
  unfold takeB
  by_cases h : l.length < 8
  · rw [if_pos (.inr (.inr (by omega))), if_pos h]
  · rw [if_neg (by rintro (e | e | e); cases e; all_goals omega), if_neg h]; rfl
theorem unsign (n : Nat) (h : n < 2 ^ 64) : IntKind.i64.wrap (ibits .xor .u64 (n : Int) 9223372036854775808) = (n : Int) - 9223372036854775808 := by
  have hc : (9223372036854775808 : Int) = ((2 ^ 63 : Nat) : Int) := by decide
  rw [hc, ibits_xor rfl (by simpa [IntKind.bits] using h) (by decide)]
  by_cases e : n < 2 ^ 63
  · rw [xor_top e]
    simp only [IntKind.wrap, IntKind.bits, IntKind.signed]
    simp
    omega
  · rw [xor_top' (by omega) h]
    simp only [IntKind.wrap, IntKind.bits, IntKind.signed]
    simp
    omega

theorem keys_plain (c : UInt8) (l : List UInt8) (hs : l.length ≤ 999999) : CtrP Tryd.prog 22 [.string (bs (c :: l))] (fun v => v = plainV (c :: l)) := by
  refine CtrP.of fun I => ?_
  refine ctr_of Tryd.func22 rfl (n := 57) rfl rfl ?_
  intro G R
  simp only [argL]
  refine gc_seq ?_
  refine gc_region ?_
  refine gl_y rfl (y_assign rfl) ?_
  refine gl_y rfl (y_assign rfl) ?_
  refine gl_nil ?_
  refine gq_then' ?_
  refine gc_seq ?_
  refine gc_region ?_
  refine gl_y rfl (y_move rfl) ?_
  refine gl_y rfl (y_sslice_l Tryd.underlying9 rfl rfl (by omega) (by first | omega | (simp only [List.length_append, List.length_cons, List.length_nil, List.length_take, List.length_drop, List.length_map, List.length_replicate, List.length_set, u8s_length, fx_length, fixed_length, turn_length]; omega))) ?_
  refine gl_ef (ef_callm en_26 rfl (prim_New _) perm_all rfl) ?_
  rintro _ _ _ ⟨v11, Mc11, ⟨b11, rfl, rfl⟩, rfl, rfl, rfl⟩
  refine gl_y rfl (y_assign rfl) ?_
  refine gl_nil ?_
  refine gq_then' ?_
  refine gc_seq ?_
  refine gc_seq ?_
  refine gc_region ?_
  refine gl_y rfl (y_move rfl) ?_
  refine gl_y rfl (y_sat Tryd.underlying9 rfl rfl (by omega) (by first | omega | (simp only [List.length_append, List.length_cons, List.length_nil, List.length_take, List.length_drop, List.length_map, List.length_replicate, List.length_set, u8s_length, fx_length, fixed_length, turn_length]; omega))) ?_
  simp only [show at8 (c :: l) 0 = c from rfl]
  refine gl_nil ?_
  refine gq_then' ?_
  refine gc_block ?_
  refine gc_seq ?_
  refine gc_region ?_
  refine gl_y rfl (y_eql rfl rfl) ?_
  refine gl_y rfl (y_assign rfl) ?_
  refine gl_nil ?_
  refine gq_then' ?_
  refine gc_if rfl (fun h14 => ?_) (fun h14 => ?_)
  · have g14 := h14
    try (replace g14 := of_decide_eq_true g14)
    first
    | exact absurd h14 (by decide)
    | (exfalso; omega)
    | skip
      refine gc_seq ?_
      refine gc_region ?_
      refine gl_y rfl (y_assign rfl) ?_
      refine gl_y rfl (y_assign rfl) ?_
      refine gl_nil ?_
      refine gq_then' ?_
      refine gc_ret ?_
      refine gq_in_ret ?_
      refine gq_pass_ret ?_
      refine gq_r2 rfl rfl rfl perm_all ?_
      rw [plainV_cons, if_pos (show c = 16 from u8_eq (n := 16) (by decide) (by omega))]
  · have g14 := h14
    try (replace g14 := of_decide_eq_false g14)
    first
    | exact absurd h14 (by decide)
    | (exfalso; omega)
    | skip
      refine gc_seq ?_
      refine gc_seq ?_
      refine gc_region ?_
      refine gl_y rfl (y_eql rfl rfl) ?_
      refine gl_y rfl (y_assign rfl) ?_
      refine gl_nil ?_
      refine gq_then' ?_
      refine gc_if rfl (fun h16 => ?_) (fun h16 => ?_)
      · have g16 := h16
        try (replace g16 := of_decide_eq_true g16)
        first
        | exact absurd h16 (by decide)
        | (exfalso; omega)
        | skip
          refine gc_skip ?_
          refine gq_then' ?_
          refine gc_t rfl h16 ?_
          refine gc_seq ?_
          refine gc_region ?_
          refine gl_y rfl (y_move rfl) ?_
          refine gl_y rfl (y_sat Tryd.underlying9 rfl rfl (by omega) (by first | omega | (simp only [List.length_append, List.length_cons, List.length_nil, List.length_take, List.length_drop, List.length_map, List.length_replicate, List.length_set, u8s_length, fx_length, fixed_length, turn_length]; omega))) ?_
          refine gl_y rfl (y_eql rfl rfl) ?_
          refine gl_y rfl (y_mkiface co_4 rfl) ?_
          refine gl_y rfl (y_assign rfl) ?_
          refine gl_y rfl (y_assign rfl) ?_
          refine gl_nil ?_
          refine gq_then' ?_
          refine gc_ret ?_
          refine gq_in_ret ?_
          refine gq_pass_ret ?_
          refine gq_r2 rfl rfl rfl perm_all ?_
          have e : at8 (c :: l) 0 = c := rfl
          rw [e, decide_eq_false (by omega)]
          rw [plainV_cons, if_neg (show c ≠ 16 from u8_ne (n := 16) (by decide) (by omega)), if_pos (show c = 32 from u8_eq (n := 32) (by decide) (by omega))]
          rfl
      · have g16 := h16
        try (replace g16 := of_decide_eq_false g16)
        first
        | exact absurd h16 (by decide)
        | (exfalso; omega)
        | skip
          refine gc_region ?_
          refine gl_y rfl (y_eql rfl rfl) ?_
          refine gl_y rfl (y_assign rfl) ?_
          refine gl_nil ?_
          refine gq_then' ?_
          refine gc_if rfl (fun h16 => ?_) (fun h16 => ?_)
          · have g16 := h16
            try (replace g16 := of_decide_eq_true g16)
            first
            | exact absurd h16 (by decide)
            | (exfalso; omega)
            | skip
              refine gc_seq ?_
              refine gc_region ?_
              refine gl_y rfl (y_move rfl) ?_
              refine gl_y rfl (y_sat Tryd.underlying9 rfl rfl (by omega) (by first | omega | (simp only [List.length_append, List.length_cons, List.length_nil, List.length_take, List.length_drop, List.length_map, List.length_replicate, List.length_set, u8s_length, fx_length, fixed_length, turn_length]; omega))) ?_
              refine gl_y rfl (y_eql rfl rfl) ?_
              refine gl_y rfl (y_mkiface co_4 rfl) ?_
              refine gl_y rfl (y_assign rfl) ?_
              refine gl_y rfl (y_assign rfl) ?_
              refine gl_nil ?_
              refine gq_then' ?_
              refine gc_ret ?_
              refine gq_in_ret ?_
              refine gq_pass_ret ?_
              refine gq_r2 rfl rfl rfl perm_all ?_
              have e : at8 (c :: l) 0 = c := rfl
              rw [e, decide_eq_true (by omega)]
              rw [plainV_cons, if_neg (show c ≠ 16 from u8_ne (n := 16) (by decide) (by omega)), if_neg (show c ≠ 32 from u8_ne (n := 32) (by decide) (by omega)), if_pos (show c = 33 from u8_eq (n := 33) (by decide) (by omega))]
              rfl
          · have g16 := h16
            try (replace g16 := of_decide_eq_false g16)
            first
            | exact absurd h16 (by decide)
            | (exfalso; omega)
            | skip
              refine gc_seq ?_
              refine gc_region ?_
              refine gl_y rfl (y_eql rfl rfl) ?_
              refine gl_y rfl (y_assign rfl) ?_
              refine gl_nil ?_
              refine gq_then' ?_
              refine gc_if rfl (fun h23 => ?_) (fun h23 => ?_)
              · have g23 := h23
                try (replace g23 := of_decide_eq_true g23)
                first
                | exact absurd h23 (by decide)
                | (exfalso; omega)
                | skip
                  refine gc_seq ?_
                  refine gc_region ?_
                  refine gl_y rfl (y_move rfl) ?_
                  refine gl_ef (ef_callm en_27 rfl (cur_Fixed _ _ _ 8 true (by first | omega | (simp only [List.length_append, List.length_cons, List.length_nil, List.length_take, List.length_drop, List.length_map, List.length_replicate, List.length_set, u8s_length, fx_length, fixed_length, turn_length]; omega)) (by first | omega | (simp only [List.length_append, List.length_cons, List.length_nil, List.length_take, List.length_drop, List.length_map, List.length_replicate, List.length_set, u8s_length, fx_length, fixed_length, turn_length]; omega)) (by first | omega | (simp only [List.length_append, List.length_cons, List.length_nil, List.length_take, List.length_drop, List.length_map, List.length_replicate, List.length_set, u8s_length, fx_length, fixed_length, turn_length]; omega))) perm_same rfl) ?_
                  rintro _ _ _ ⟨v26, Mc26, ⟨rfl, rfl⟩, rfl, rfl, rfl⟩
                  refine gl_y rfl (y_assign rfl) ?_
                  refine gl_nil ?_
                  refine gq_then' ?_
                  refine gc_seq ?_
                  refine gc_region ?_
                  refine gl_y rfl (y_move rfl) ?_
                  refine gl_ef (ef_callm en_28 rfl (cur_Bad _ _ _) perm_same rfl) ?_
                  rintro _ _ _ ⟨v28, Mc28, ⟨rfl, rfl⟩, rfl, rfl, rfl⟩
                  refine gl_y rfl (y_not rfl) ?_
                  refine gl_nil ?_
                  refine gq_then' ?_
                  refine gc_if rfl (fun h29 => ?_) (fun h29 => ?_)
                  · have g29 := h29
                    try (replace g29 := of_decide_eq_true g29)
                    first
                    | exact absurd h29 (by decide)
                    | (exfalso; omega)
                    | skip
                      refine gc_seq ?_
                      refine gc_region ?_
                      refine gl_y rfl (y_move rfl) ?_
                      refine gl_y rfl (y_xor rfl rfl rfl) ?_
                      refine gl_y rfl (y_conv Tryd.underlying22 Tryd.underlying2 rfl rfl) ?_
                      refine gl_y rfl (y_mkiface co_2 rfl) ?_
                      refine gl_y rfl (y_assign rfl) ?_
                      refine gl_y rfl (y_assign rfl) ?_
                      refine gl_nil ?_
                      refine gq_then' ?_
                      refine gc_ret ?_
                      refine gq_in_ret ?_
                      refine gq_pass_ret ?_
                      refine gq_r2 rfl rfl rfl perm_all ?_
                      rw [plainV_cons, if_neg (show c ≠ 16 from u8_ne (n := 16) (by decide) (by omega)), if_neg (show c ≠ 32 from u8_ne (n := 32) (by decide) (by omega)), if_neg (show c ≠ 33 from u8_ne (n := 33) (by decide) (by omega)), if_pos (show c = 48 from u8_eq (n := 48) (by decide) (by omega))]
                      have e0 : takeB (List.drop (Int.toNat 1) (c :: l)) false 8 = takeB l false 8 := rfl
                      rw [e0, takeB_eight] at g29
                      by_cases hl : l.length < 8
                      · rw [if_pos hl] at g29; simp at g29
                      · rw [if_neg hl, e0, takeB_eight, if_neg hl]
                        rw [show valb true (l.take 8, l.drop 8, false).1 = val (l.take 8) from rfl, unsign _ (val8 l)]
                        rfl
                  · have g29 := h29
                    try (replace g29 := of_decide_eq_false g29)
                    first
                    | exact absurd h29 (by decide)
                    | (exfalso; omega)
                    | skip
                      refine gc_skip ?_
                      refine gq_in_normal ?_
                      refine gq_then' ?_
                      refine gc_seq ?_
                      refine gc_region ?_
                      refine gl_y rfl (y_assign rfl) ?_
                      refine gl_y rfl (y_assign rfl) ?_
                      refine gl_nil ?_
                      refine gq_then' ?_
                      refine gc_ret ?_
                      refine gq_r2 rfl rfl rfl perm_all ?_
                      rw [plainV_cons, if_neg (show c ≠ 16 from u8_ne (n := 16) (by decide) (by omega)), if_neg (show c ≠ 32 from u8_ne (n := 32) (by decide) (by omega)), if_neg (show c ≠ 33 from u8_ne (n := 33) (by decide) (by omega)), if_pos (show c = 48 from u8_eq (n := 48) (by decide) (by omega))]
                      have e0 : takeB (List.drop (Int.toNat 1) (c :: l)) false 8 = takeB l false 8 := rfl
                      rw [e0, takeB_eight] at g29
                      by_cases hl : l.length < 8
                      · rw [if_pos hl]
                      · rw [if_neg hl] at g29; simp at g29
              · have g23 := h23
                try (replace g23 := of_decide_eq_false g23)
                first
                | exact absurd h23 (by decide)
                | (exfalso; omega)
                | skip
                  refine gc_seq ?_
                  refine gc_region ?_
                  refine gl_y rfl (y_eql rfl rfl) ?_
                  refine gl_y rfl (y_assign rfl) ?_
                  refine gl_nil ?_
                  refine gq_then' ?_
                  refine gc_if rfl (fun h34 => ?_) (fun h34 => ?_)
                  · have g34 := h34
                    try (replace g34 := of_decide_eq_true g34)
                    first
                    | exact absurd h34 (by decide)
                    | (exfalso; omega)
                    | skip
                      refine gc_seq ?_
                      refine gc_region ?_
                      refine gl_y rfl (y_move rfl) ?_
                      refine gl_ef (ef_callm en_27 rfl (cur_Fixed _ _ _ 8 true (by first | omega | (simp only [List.length_append, List.length_cons, List.length_nil, List.length_take, List.length_drop, List.length_map, List.length_replicate, List.length_set, u8s_length, fx_length, fixed_length, turn_length]; omega)) (by first | omega | (simp only [List.length_append, List.length_cons, List.length_nil, List.length_take, List.length_drop, List.length_map, List.length_replicate, List.length_set, u8s_length, fx_length, fixed_length, turn_length]; omega)) (by first | omega | (simp only [List.length_append, List.length_cons, List.length_nil, List.length_take, List.length_drop, List.length_map, List.length_replicate, List.length_set, u8s_length, fx_length, fixed_length, turn_length]; omega))) perm_same rfl) ?_
                      rintro _ _ _ ⟨v37, Mc37, ⟨rfl, rfl⟩, rfl, rfl, rfl⟩
                      refine gl_y rfl (y_assign rfl) ?_
                      refine gl_nil ?_
                      refine gq_then' ?_
                      refine gc_seq ?_
                      refine gc_region ?_
                      refine gl_y rfl (y_move rfl) ?_
                      refine gl_ef (ef_callm en_28 rfl (cur_Bad _ _ _) perm_same rfl) ?_
                      rintro _ _ _ ⟨v39, Mc39, ⟨rfl, rfl⟩, rfl, rfl, rfl⟩
                      refine gl_y rfl (y_not rfl) ?_
                      refine gl_nil ?_
                      refine gq_then' ?_
                      refine gc_if rfl (fun h40 => ?_) (fun h40 => ?_)
                      · have g40 := h40
                        try (replace g40 := of_decide_eq_true g40)
                        first
                        | exact absurd h40 (by decide)
                        | (exfalso; omega)
                        | skip
                          refine gc_seq ?_
                          refine gc_region ?_
                          refine gl_y rfl (y_move rfl) ?_
                          refine gl_y rfl (y_mkiface co_22 rfl) ?_
                          refine gl_y rfl (y_assign rfl) ?_
                          refine gl_y rfl (y_assign rfl) ?_
                          refine gl_nil ?_
                          refine gq_then' ?_
                          refine gc_ret ?_
                          refine gq_in_ret ?_
                          refine gq_pass_ret ?_
                          refine gq_r2 rfl rfl rfl perm_all ?_
                          rw [plainV_cons, if_neg (show c ≠ 16 from u8_ne (n := 16) (by decide) (by omega)), if_neg (show c ≠ 32 from u8_ne (n := 32) (by decide) (by omega)), if_neg (show c ≠ 33 from u8_ne (n := 33) (by decide) (by omega)), if_neg (show c ≠ 48 from u8_ne (n := 48) (by decide) (by omega)), if_pos (show c = 64 from u8_eq (n := 64) (by decide) (by omega))]
                          have e0 : takeB (List.drop (Int.toNat 1) (c :: l)) false 8 = takeB l false 8 := rfl
                          rw [e0, takeB_eight] at g40
                          by_cases hl : l.length < 8
                          · rw [if_pos hl] at g40; simp at g40
                          · rw [if_neg hl, e0, takeB_eight, if_neg hl]
                            rfl
                      · have g40 := h40
                        try (replace g40 := of_decide_eq_false g40)
                        first
                        | exact absurd h40 (by decide)
                        | (exfalso; omega)
                        | skip
                          refine gc_skip ?_
                          refine gq_in_normal ?_
                          refine gq_then' ?_
                          refine gc_seq ?_
                          refine gc_region ?_
                          refine gl_y rfl (y_assign rfl) ?_
                          refine gl_y rfl (y_assign rfl) ?_
                          refine gl_nil ?_
                          refine gq_then' ?_
                          refine gc_ret ?_
                          refine gq_r2 rfl rfl rfl perm_all ?_
                          rw [plainV_cons, if_neg (show c ≠ 16 from u8_ne (n := 16) (by decide) (by omega)), if_neg (show c ≠ 32 from u8_ne (n := 32) (by decide) (by omega)), if_neg (show c ≠ 33 from u8_ne (n := 33) (by decide) (by omega)), if_neg (show c ≠ 48 from u8_ne (n := 48) (by decide) (by omega)), if_pos (show c = 64 from u8_eq (n := 64) (by decide) (by omega))]
                          have e0 : takeB (List.drop (Int.toNat 1) (c :: l)) false 8 = takeB l false 8 := rfl
                          rw [e0, takeB_eight] at g40
                          by_cases hl : l.length < 8
                          · rw [if_pos hl]
                          · rw [if_neg hl] at g40; simp at g40
                  · have g34 := h34
                    try (replace g34 := of_decide_eq_false g34)
                    first
                    | exact absurd h34 (by decide)
                    | (exfalso; omega)
                    | skip
                      refine gc_seq ?_
                      refine gc_region ?_
                      refine gl_y rfl (y_eql rfl rfl) ?_
                      refine gl_y rfl (y_assign rfl) ?_
                      refine gl_nil ?_
                      refine gq_then' ?_
                      refine gc_if rfl (fun h43 => ?_) (fun h43 => ?_)
                      · have g43 := h43
                        try (replace g43 := of_decide_eq_true g43)
                        first
                        | exact absurd h43 (by decide)
                        | (exfalso; omega)
                        | skip
                          refine gc_seq ?_
                          refine gc_region ?_
                          refine gl_y rfl (y_move rfl) ?_
                          refine gl_y rfl (y_sslice_l Tryd.underlying9 rfl rfl (by omega) (by first | omega | (simp only [List.length_append, List.length_cons, List.length_nil, List.length_take, List.length_drop, List.length_map, List.length_replicate, List.length_set, u8s_length, fx_length, fixed_length, turn_length]; omega))) ?_
                          refine gl_ef (ef_callp en_29 rfl (keys_text l (by first | omega | (simp only [List.length_append, List.length_cons, List.length_nil, List.length_take, List.length_drop, List.length_map, List.length_replicate, List.length_set, u8s_length, fx_length, fixed_length, turn_length]; omega))) rfl) ?_
                          rintro _ _ _ ⟨v48, hv48, rfl, rfl, rfl⟩
                          obtain ⟨t48, k48, e48, k1_48, k2_48, k3_48⟩ := textV_ex l
                          rw [e48] at hv48
                          subst hv48
                          refine gl_y rfl (y_move rfl) ?_
                          refine gl_y rfl (y_extract rfl rfl) ?_
                          refine gl_y rfl (y_extract rfl rfl) ?_
                          refine gl_y rfl (y_assign rfl) ?_
                          refine gl_y rfl (y_assign rfl) ?_
                          refine gl_nil ?_
                          refine gq_then' ?_
                          refine gc_seq ?_
                          refine gc_region ?_
                          refine gl_y rfl (y_move rfl) ?_
                          refine gl_y rfl (y_geq rfl rfl) ?_
                          refine gl_nil ?_
                          refine gq_then' ?_
                          refine gc_if rfl (fun h52 => ?_) (fun h52 => ?_)
                          · have g52 := h52
                            try (replace g52 := of_decide_eq_true g52)
                            first
                            | exact absurd h52 (by decide)
                            | (exfalso; omega)
                            | skip
                              refine gc_seq ?_
                              refine gc_region ?_
                              refine gl_y rfl (y_move rfl) ?_
                              refine gl_y rfl (y_mkiface co_9 rfl) ?_
                              refine gl_y rfl (y_move rfl) ?_
                              first | refine gl_y rfl (y_add rfl rfl (wr_i64 (by omega) (by omega))) ?_ | refine gl_y rfl (y_add rfl rfl rfl) ?_
                              refine gl_y rfl (y_assign rfl) ?_
                              refine gl_y rfl (y_assign rfl) ?_
                              refine gl_nil ?_
                              refine gq_then' ?_
                              refine gc_ret ?_
                              refine gq_in_ret ?_
                              refine gq_pass_ret ?_
                              refine gq_r2 rfl rfl rfl perm_all ?_
                              rw [plainV_cons, if_neg (show c ≠ 16 from u8_ne (n := 16) (by decide) (by omega)), if_neg (show c ≠ 32 from u8_ne (n := 32) (by decide) (by omega)), if_neg (show c ≠ 33 from u8_ne (n := 33) (by decide) (by omega)), if_neg (show c ≠ 48 from u8_ne (n := 48) (by decide) (by omega)), if_neg (show c ≠ 64 from u8_ne (n := 64) (by decide) (by omega)), if_pos (show c = 80 from u8_eq (n := 80) (by decide) (by omega))]
                              rcases k3_48 with ⟨e, _⟩ | ⟨_, e⟩
                              · omega
                              · rw [e]
                                simp only
                                rw [show ((k48.toNat : Nat) : Int) = k48 by omega]; rfl
                          · have g52 := h52
                            try (replace g52 := of_decide_eq_false g52)
                            first
                            | exact absurd h52 (by decide)
                            | (exfalso; omega)
                            | skip
                              refine gc_skip ?_
                              refine gq_in_normal ?_
                              refine gq_then' ?_
                              refine gc_seq ?_
                              refine gc_region ?_
                              refine gl_y rfl (y_assign rfl) ?_
                              refine gl_y rfl (y_assign rfl) ?_
                              refine gl_nil ?_
                              refine gq_then' ?_
                              refine gc_ret ?_
                              refine gq_r2 rfl rfl rfl perm_all ?_
                              rw [plainV_cons, if_neg (show c ≠ 16 from u8_ne (n := 16) (by decide) (by omega)), if_neg (show c ≠ 32 from u8_ne (n := 32) (by decide) (by omega)), if_neg (show c ≠ 33 from u8_ne (n := 33) (by decide) (by omega)), if_neg (show c ≠ 48 from u8_ne (n := 48) (by decide) (by omega)), if_neg (show c ≠ 64 from u8_ne (n := 64) (by decide) (by omega)), if_pos (show c = 80 from u8_eq (n := 80) (by decide) (by omega))]
                              rcases k3_48 with ⟨_, e⟩ | ⟨_, e⟩
                              · rw [e]
                              · omega
                      · have g43 := h43
                        try (replace g43 := of_decide_eq_false g43)
                        first
                        | exact absurd h43 (by decide)
                        | (exfalso; omega)
                        | skip
                          refine gc_skip ?_
                          refine gq_in_normal ?_
                          refine gq_then' ?_
                          refine gc_seq ?_
                          refine gc_region ?_
                          refine gl_y rfl (y_assign rfl) ?_
                          refine gl_y rfl (y_assign rfl) ?_
                          refine gl_nil ?_
                          refine gq_then' ?_
                          refine gc_ret ?_
                          refine gq_r2 rfl rfl rfl perm_all ?_
                          rw [plainV_cons, if_neg (show c ≠ 16 from u8_ne (n := 16) (by decide) (by omega)), if_neg (show c ≠ 32 from u8_ne (n := 32) (by decide) (by omega)), if_neg (show c ≠ 33 from u8_ne (n := 33) (by decide) (by omega)), if_neg (show c ≠ 48 from u8_ne (n := 48) (by decide) (by omega)), if_neg (show c ≠ 64 from u8_ne (n := 64) (by decide) (by omega)), if_neg (show c ≠ 80 from u8_ne (n := 80) (by decide) (by omega))]

theorem keys_plain_ne (s : List UInt8) (h : s ≠ []) (hs : s.length ≤ 1000000) : CtrP Tryd.prog 22 [.string (bs s)] (fun v => v = plainV s) := by
  cases s with
  | nil => exact absurd rfl h
  | cons c l => exact keys_plain c l (by simp at hs; omega)
theorem plainV_ex (s : List UInt8) (hs : s.length ≤ 1000000) : ∃ (x : KIt) (k : Int), plainV s = .tuple #[x.val, .int .i64 k] ∧ 0 ≤ k ∧ k ≤ s.length ∧ ((k = 0 ∧ plainD s = none) ∨ (0 < k ∧ plainD s = some (x, k.toNat))) := by
  cases h : plainD s with
  | none => exact ⟨.nil, 0, by simp only [plainV, h]; rfl, by omega, by omega, .inl ⟨rfl, rfl⟩⟩
  | some p =>
    have := plainD_sound s p.1 p.2 hs h
    exact ⟨p.1, p.2, by simp only [plainV, h], by omega, by omega, .inr ⟨by omega, by simp⟩⟩
theorem KIt.one (x : KIt) : one1 x.val = true := by cases x <;> rfl
def decL (s : List UInt8) : List KItem := (dec s.length s).getD []
def decE (s : List UInt8) : Int := if (dec s.length s).isSome then 0 else 2
structure DecAt (s b : List UInt8) (o : List KItem) : Prop where
  len : o.length + b.length ≤ s.length
  run : ∃ k, b.length ≤ k ∧ dec s.length s = (dec k b).map (o ++ ·)
theorem DecAt.zero (s : List UInt8) : DecAt s s [] := ⟨by simp, s.length, Nat.le_refl _, by simp⟩
theorem DecAt.next {s b : List UInt8} {o : List KItem} (h : DecAt s b o) (hb : b ≠ []) {a : KItem} {n : Nat} (hi : itemD b = some (a, n)) (hn : 1 ≤ n) (hl : n ≤ b.length) : DecAt s (b.drop n) (o ++ [a]) := by
  obtain ⟨k, hk, hr⟩ := h.run
  have h1 := h.len
  refine ⟨by simp; omega, ?_⟩
  cases k with
  | zero => exact absurd (List.eq_nil_of_length_eq_zero (by omega)) hb
  | succ k =>
    refine ⟨k, by simp; omega, ?_⟩
    rw [hr]
    simp only [dec, if_neg hb, hi, Option.map_map]
    congr 1
    funext l
    simp
theorem DecAt.bad {s b : List UInt8} {o : List KItem} (h : DecAt s b o) (hb : b ≠ []) (hi : itemD b = none) : decE s = 2 ∧ decL s = [] := by
  obtain ⟨k, hk, hr⟩ := h.run
  have e : dec s.length s = none := by
    rw [hr]
    cases k with
    | zero => exact absurd (List.eq_nil_of_length_eq_zero (by omega)) hb
    | succ k => simp only [dec, if_neg hb, hi, Option.map_none]
  simp [decE, decL, e]
theorem DecAt.fin {s b : List UInt8} {o : List KItem} (h : DecAt s b o) (hb : b = []) : decE s = 0 ∧ decL s = o := by
  obtain ⟨k, hk, hr⟩ := h.run
  have e : dec s.length s = some o := by
    rw [hr, hb]
    cases k <;> simp [dec]
  simp [decE, decL, e]
theorem osl_snocK (e : Nat) (v : Value) (o : List KItem) (a : KItem) : osl e 1 v (o.length + 1) (o.map KItem.val ++ [a.val]) = osl e 1 v (o ++ [a]).length ((o ++ [a]).map KItem.val) := by simp
theorem itemD_plain {b : List UInt8} {x : KIt} {n : Nat} (h : ¬ (128 : Int) ≤ (at8 b 0).toNat) (hp : plainD b = some (x, n)) : itemD b = some (⟨x, false⟩, n) := by
  have h1 : ¬ 128 ≤ (at8 b 0).toNat := by omega
  simp only [itemD, if_neg h1, hp, Option.map_some, decide_eq_false h1]
theorem itemD_down {b : List UInt8} {x : KIt} {n : Nat} (h : (128 : Int) ≤ (at8 b 0).toNat) (hp : plainD (turn b) = some (x, n)) : itemD b = some (⟨x, true⟩, n) := by
  have h1 : 128 ≤ (at8 b 0).toNat := by omega
  simp only [itemD, if_pos h1, hp, Option.map_some, decide_eq_true h1]
theorem itemD_none1 {b : List UInt8} (h : ¬ (128 : Int) ≤ (at8 b 0).toNat) (hp : plainD b = none) : itemD b = none := by
  have h1 : ¬ 128 ≤ (at8 b 0).toNat := by omega
  simp only [itemD, if_neg h1, hp, Option.map_none]
theorem itemD_none2 {b : List UInt8} (h : (128 : Int) ≤ (at8 b 0).toNat) (hp : plainD (turn b) = none) : itemD b = none := by
  have h1 : 128 ≤ (at8 b 0).toNat := by omega
  simp only [itemD, if_pos h1, hp, Option.map_none]
theorem turn_ne {b : List UInt8} (h : b ≠ []) : turn b ≠ [] := by simpa [turn] using h

theorem keys_Decode {I : PH} (s : List UInt8) (hs : s.length ≤ 1000000) : Ctr Tryd.prog 15 [.string (bs s)] I [] (fun v _ M' => ∃ A, v = .tuple #[A, .int .i64 (decE s)] ∧ M' = [osl 20 1 A (decL s).length ((decL s).map KItem.val)]) := by
  refine ctr_of Tryd.func15 rfl (n := 37) rfl rfl ?_
  intro G R
  simp only [argL]
  refine gc_seq ?_
  refine gc_region ?_
  refine gl_y rfl (y_assign rfl) ?_
  refine gl_nilslice 20 1 ?_
  refine gl_y rfl (y_assign rfl) ?_
  refine gl_nil ?_
  refine gq_then' ?_
  refine gc_seq ?_
  refine gc_region ?_
  refine gl_y rfl (y_assign rfl) ?_
  refine gl_nilslice 20 1 ?_
  refine gl_nil ?_
  refine gq_then' ?_
  refine gc_seq ?_
  refine gc_block ?_
  refine gc_loopW (α := List UInt8 × List KItem × Value) [9, 10, 11, 12, 13, 5, 14, 6, 15, 16, 17, 19, 20, 18, 21, 22, 7, 8, 23, 24, 2, 3, 25, 26, 27, 28, 29, 30, 31, 32, 4, 33, 34, 35, 0] (fun (⟨b, o, v⟩ : List UInt8 × List KItem × Value) => [(0, .string (bs b)), (4, v)]) (fun (⟨b, o, v⟩ : List UInt8 × List KItem × Value) => [osl 20 1 v o.length (o.map KItem.val)]) (fun (⟨b, o, v⟩ : List UInt8 × List KItem × Value) => DecAt s b o) (fun (⟨b, o, v⟩ : List UInt8 × List KItem × Value) => b.length) (s, [], .slice none 0 0) ?_ (perm_one (i := 1) rfl) ?_ ?_
  · exact DecAt.zero s
  · exact ⟨rfl, rfl, trivial⟩
  · rintro ⟨b, o, v⟩ hD
    have hD1 := hD.len
    refine gc_seq ?_
    refine gc_seq ?_
    refine gc_region ?_
    refine gl_y rfl (y_move rfl) ?_
    refine gl_y rfl (y_sneq rfl rfl) ?_
    refine gl_nil ?_
    refine gq_then' ?_
    refine gc_if rfl (fun h10 => ?_) (fun h10 => ?_)
    · have g10 := h10
      try (replace g10 := of_decide_eq_true g10)
      first
      | exact absurd h10 (by decide)
      | (exfalso; omega)
      | skip
        refine gc_skip ?_
        refine gq_then' ?_
        refine gc_block ?_
        refine gc_seq ?_
        refine gc_region ?_
        refine gl_y rfl (y_move rfl) ?_
        have hb : b ≠ [] := g10
        have hb1 := List.length_pos_iff.2 hb
        refine gl_y rfl (y_sat Tryd.underlying9 rfl rfl (by omega) (by first | omega | (simp only [List.length_append, List.length_cons, List.length_nil, List.length_take, List.length_drop, List.length_map, List.length_replicate, List.length_set, u8s_length, fx_length, fixed_length, turn_length]; omega))) ?_
        refine gl_y rfl (y_geq rfl rfl) ?_
        refine gl_y rfl (y_assign rfl) ?_
        refine gl_nil ?_
        refine gq_then' ?_
        refine gc_seq ?_
        refine gc_region ?_
        refine gl_y rfl (y_move rfl) ?_
        refine gl_y rfl (y_assign rfl) ?_
        refine gl_nil ?_
        refine gq_then' ?_
        refine gc_seq ?_
        refine gc_seq ?_
        refine gc_region ?_
        refine gl_y rfl (y_move rfl) ?_
        refine gl_nil ?_
        refine gq_then' ?_
        refine gc_if rfl (fun h15 => ?_) (fun h15 => ?_)
        · have g15 := h15
          try (replace g15 := of_decide_eq_true g15)
          first
          | exact absurd h15 (by decide)
          | (exfalso; omega)
          | skip
            refine gc_region ?_
            refine gl_y rfl (y_move rfl) ?_
            refine gl_ef (ef_callp en_21 rfl (keys_turned _ (by first | omega | (simp only [List.length_append, List.length_cons, List.length_nil, List.length_take, List.length_drop, List.length_map, List.length_replicate, List.length_set, u8s_length, fx_length, fixed_length, turn_length]; omega))) rfl) ?_
            rintro _ _ _ ⟨v17, rfl, rfl, rfl, rfl⟩
            refine gl_y rfl (y_assign rfl) ?_
            refine gl_nil ?_
            refine gq_then' ?_
            refine gc_seq ?_
            refine gc_region ?_
            refine gl_y rfl (y_move rfl) ?_
            refine gl_ef (ef_callp en_22 rfl (keys_plain_ne _ (by first | exact hb | exact turn_ne hb) (by first | omega | (rw [turn_length]; omega))) rfl) ?_
            rintro _ _ _ ⟨v20, hv20, rfl, rfl, rfl⟩
            first
            | (obtain ⟨x20, k20, e20, k1_20, k2_20, p20⟩ := plainV_ex b (by omega); rw [e20] at hv20)
            | (obtain ⟨x20, k20, e20, k1_20, k2_20, p20⟩ := plainV_ex (turn b) (by rw [turn_length]; omega); rw [e20] at hv20; rw [turn_length] at k2_20)
            subst hv20
            refine gl_y rfl (y_move rfl) ?_
            refine gl_y rfl (y_extract rfl rfl) ?_
            refine gl_y rfl (y_extract rfl rfl) ?_
            refine gl_y rfl (y_assign rfl) ?_
            refine gl_y rfl (y_assign rfl) ?_
            refine gl_nil ?_
            refine gq_then' ?_
            refine gc_seq ?_
            refine gc_seq ?_
            refine gc_region ?_
            refine gl_y rfl (y_move rfl) ?_
            refine gl_y rfl (y_eql rfl rfl) ?_
            refine gl_nil ?_
            refine gq_then' ?_
            refine gc_if rfl (fun h24 => ?_) (fun h24 => ?_)
            · have g24 := h24
              try (replace g24 := of_decide_eq_true g24)
              first
              | exact absurd h24 (by decide)
              | (exfalso; omega)
              | skip
                refine gc_seq ?_
                refine gc_region ?_
                refine gl_y rfl (y_assign rfl) ?_
                refine gl_nilslice 20 1 ?_
                refine gl_y rfl (y_assign rfl) ?_
                refine gl_nil ?_
                refine gq_then' ?_
                refine gc_ret ?_
                refine gq_pass_ret ?_
                refine gq_in_ret ?_
                refine gq_pass_ret ?_
                refine gq_in_ret ?_
                refine gq_pass_ret ?_
                have hN := hD.bad hb (itemD_none2 g15 (p20.resolve_right (by omega)).2)
                refine gq_r2 rfl rfl rfl (perm_one (i := 1) rfl) ?_
                exact ⟨_, by rw [hN.1], by rw [hN.2]; rfl⟩
            · have g24 := h24
              try (replace g24 := of_decide_eq_false g24)
              first
              | exact absurd h24 (by decide)
              | (exfalso; omega)
              | skip
                refine gc_skip ?_
                refine gq_then' ?_
                refine gc_seq ?_
                refine gc_seq ?_
                refine gc_region ?_
                refine gl_y rfl (y_move rfl) ?_
                refine gl_nil ?_
                refine gq_then' ?_
                refine gc_if rfl (fun h25 => ?_) (fun h25 => ?_)
                · have g25 := h25
                  try (replace g25 := of_decide_eq_true g25)
                  first
                  | exact absurd h25 (by decide)
                  | (exfalso; omega)
                  | skip
                    refine gc_region ?_
                    refine gl_y rfl (y_move rfl) ?_
                    refine gl_y rfl (y_build pl_41 zr_41 rfl (cs := [x20.val]) (fill1 (KIt.one x20))) ?_
                    refine gl_y rfl (y_mkiface co_41 rfl) ?_
                    refine gl_y rfl (y_assign rfl) ?_
                    refine gl_nil ?_
                    refine gq_then' ?_
                    refine gc_seq ?_
                    refine gc_region ?_
                    refine gl_y rfl (y_move rfl) ?_
                    refine gl_y rfl (y_move rfl) ?_
                    refine gl_ef (ef_buildSlice Tryd.underlying36 sz_20 zr_20 rfl rfl rfl (cs := [_]) (zl := [_]) rfl rfl (fill1 (by first | exact KIt.one x20 | rfl)) rfl) ?_
                    rintro _ _ _ ⟨b31, rfl, rfl, rfl⟩
                    refine gl_ef (ef_append Tryd.underlying36 tf_20 rfl (i := 0) rfl rfl (src_all (blk_own (i := 1) rfl)) rfl (by first | exact KIt.val_one x20 | rfl) (by first | omega | (simp only [List.length_append, List.length_cons, List.length_nil, List.length_take, List.length_drop, List.length_map, List.length_replicate, List.length_set, u8s_length, fx_length, fixed_length, turn_length]; omega)) (by first | omega | (simp only [List.length_append, List.length_cons, List.length_nil, List.length_take, List.length_drop, List.length_map, List.length_replicate, List.length_set, u8s_length, fx_length, fixed_length, turn_length]; omega)) rfl) ?_
                    rintro _ _ _ ⟨v32, rfl, rfl, rfl⟩
                    refine gl_y rfl (y_assign rfl) ?_
                    refine gl_nilslice 20 1 ?_
                    refine gl_nil ?_
                    refine gq_then' ?_
                    refine gc_region ?_
                    refine gl_y rfl (y_move rfl) ?_
                    refine gl_y rfl (y_move rfl) ?_
                    refine gl_y rfl (y_sslice_l Tryd.underlying9 rfl rfl (by omega) (by first | omega | (simp only [List.length_append, List.length_cons, List.length_nil, List.length_take, List.length_drop, List.length_map, List.length_replicate, List.length_set, u8s_length, fx_length, fixed_length, turn_length]; omega))) ?_
                    refine gl_y rfl (y_assign rfl) ?_
                    refine gl_nil ?_
                    refine gq_in_normal ?_
                    have hN := hD.next hb (itemD_down g15 (p20.resolve_left (by omega)).2) (by omega) (by omega)
                    refine gq_M (congrArg (fun e => e :: _) (osl_snocK _ v32 o ⟨x20, true⟩)) ?_
                    refine gq_roundW (x := (⟨b, o, v⟩ : List UInt8 × List KItem × Value)) (b.drop k20.toNat, o ++ [⟨x20, true⟩], v32) ?_ ?_ (perm_one (i := 0) rfl) rfl (by repeat (first | exact Ext.refl | refine Ext.cons rfl ?_)) ?_
                    · exact hN
                    · (show (b.drop k20.toNat).length < b.length); simp; omega
                    · exact ⟨rfl, rfl, trivial⟩
                · have g25 := h25
                  try (replace g25 := of_decide_eq_false g25)
                  first
                  | exact absurd h25 (by decide)
                  | (exfalso; omega)
                  | skip
                    refine gc_skip ?_
                    refine gq_then' ?_
                    refine gc_seq ?_
                    refine gc_region ?_
                    refine gl_y rfl (y_move rfl) ?_
                    refine gl_y rfl (y_move rfl) ?_
                    refine gl_ef (ef_buildSlice Tryd.underlying36 sz_20 zr_20 rfl rfl rfl (cs := [_]) (zl := [_]) rfl rfl (fill1 (by first | exact KIt.one x20 | rfl)) rfl) ?_
                    rintro _ _ _ ⟨b31, rfl, rfl, rfl⟩
                    refine gl_ef (ef_append Tryd.underlying36 tf_20 rfl (i := 0) rfl rfl (src_all (blk_own (i := 1) rfl)) rfl (by first | exact KIt.val_one x20 | rfl) (by first | omega | (simp only [List.length_append, List.length_cons, List.length_nil, List.length_take, List.length_drop, List.length_map, List.length_replicate, List.length_set, u8s_length, fx_length, fixed_length, turn_length]; omega)) (by first | omega | (simp only [List.length_append, List.length_cons, List.length_nil, List.length_take, List.length_drop, List.length_map, List.length_replicate, List.length_set, u8s_length, fx_length, fixed_length, turn_length]; omega)) rfl) ?_
                    rintro _ _ _ ⟨v32, rfl, rfl, rfl⟩
                    refine gl_y rfl (y_assign rfl) ?_
                    refine gl_nilslice 20 1 ?_
                    refine gl_nil ?_
                    refine gq_then' ?_
                    refine gc_region ?_
                    refine gl_y rfl (y_move rfl) ?_
                    refine gl_y rfl (y_move rfl) ?_
                    refine gl_y rfl (y_sslice_l Tryd.underlying9 rfl rfl (by omega) (by first | omega | (simp only [List.length_append, List.length_cons, List.length_nil, List.length_take, List.length_drop, List.length_map, List.length_replicate, List.length_set, u8s_length, fx_length, fixed_length, turn_length]; omega))) ?_
                    refine gl_y rfl (y_assign rfl) ?_
                    refine gl_nil ?_
                    refine gq_in_normal ?_
                    have hN := hD.next hb (itemD_down g15 (p20.resolve_left (by omega)).2) (by omega) (by omega)
                    refine gq_M (congrArg (fun e => e :: _) (osl_snocK _ v32 o ⟨x20, true⟩)) ?_
                    refine gq_roundW (x := (⟨b, o, v⟩ : List UInt8 × List KItem × Value)) (b.drop k20.toNat, o ++ [⟨x20, true⟩], v32) ?_ ?_ (perm_one (i := 0) rfl) rfl (by repeat (first | exact Ext.refl | refine Ext.cons rfl ?_)) ?_
                    · exact hN
                    · (show (b.drop k20.toNat).length < b.length); simp; omega
                    · exact ⟨rfl, rfl, trivial⟩
        · have g15 := h15
          try (replace g15 := of_decide_eq_false g15)
          first
          | exact absurd h15 (by decide)
          | (exfalso; omega)
          | skip
            refine gc_skip ?_
            refine gq_then' ?_
            refine gc_seq ?_
            refine gc_region ?_
            refine gl_y rfl (y_move rfl) ?_
            refine gl_ef (ef_callp en_22 rfl (keys_plain_ne _ (by first | exact hb | exact turn_ne hb) (by first | omega | (rw [turn_length]; omega))) rfl) ?_
            rintro _ _ _ ⟨v20, hv20, rfl, rfl, rfl⟩
            first
            | (obtain ⟨x20, k20, e20, k1_20, k2_20, p20⟩ := plainV_ex b (by omega); rw [e20] at hv20)
            | (obtain ⟨x20, k20, e20, k1_20, k2_20, p20⟩ := plainV_ex (turn b) (by rw [turn_length]; omega); rw [e20] at hv20; rw [turn_length] at k2_20)
            subst hv20
            refine gl_y rfl (y_move rfl) ?_
            refine gl_y rfl (y_extract rfl rfl) ?_
            refine gl_y rfl (y_extract rfl rfl) ?_
            refine gl_y rfl (y_assign rfl) ?_
            refine gl_y rfl (y_assign rfl) ?_
            refine gl_nil ?_
            refine gq_then' ?_
            refine gc_seq ?_
            refine gc_seq ?_
            refine gc_region ?_
            refine gl_y rfl (y_move rfl) ?_
            refine gl_y rfl (y_eql rfl rfl) ?_
            refine gl_nil ?_
            refine gq_then' ?_
            refine gc_if rfl (fun h24 => ?_) (fun h24 => ?_)
            · have g24 := h24
              try (replace g24 := of_decide_eq_true g24)
              first
              | exact absurd h24 (by decide)
              | (exfalso; omega)
              | skip
                refine gc_seq ?_
                refine gc_region ?_
                refine gl_y rfl (y_assign rfl) ?_
                refine gl_nilslice 20 1 ?_
                refine gl_y rfl (y_assign rfl) ?_
                refine gl_nil ?_
                refine gq_then' ?_
                refine gc_ret ?_
                refine gq_pass_ret ?_
                refine gq_in_ret ?_
                refine gq_pass_ret ?_
                refine gq_in_ret ?_
                refine gq_pass_ret ?_
                have hN := hD.bad hb (itemD_none1 g15 (p20.resolve_right (by omega)).2)
                refine gq_r2 rfl rfl rfl (perm_one (i := 1) rfl) ?_
                exact ⟨_, by rw [hN.1], by rw [hN.2]; rfl⟩
            · have g24 := h24
              try (replace g24 := of_decide_eq_false g24)
              first
              | exact absurd h24 (by decide)
              | (exfalso; omega)
              | skip
                refine gc_skip ?_
                refine gq_then' ?_
                refine gc_seq ?_
                refine gc_seq ?_
                refine gc_region ?_
                refine gl_y rfl (y_move rfl) ?_
                refine gl_nil ?_
                refine gq_then' ?_
                refine gc_if rfl (fun h25 => ?_) (fun h25 => ?_)
                · have g25 := h25
                  try (replace g25 := of_decide_eq_true g25)
                  first
                  | exact absurd h25 (by decide)
                  | (exfalso; omega)
                  | skip
                    refine gc_region ?_
                    refine gl_y rfl (y_move rfl) ?_
                    refine gl_y rfl (y_build pl_41 zr_41 rfl (cs := [x20.val]) (fill1 (KIt.one x20))) ?_
                    refine gl_y rfl (y_mkiface co_41 rfl) ?_
                    refine gl_y rfl (y_assign rfl) ?_
                    refine gl_nil ?_
                    refine gq_then' ?_
                    refine gc_seq ?_
                    refine gc_region ?_
                    refine gl_y rfl (y_move rfl) ?_
                    refine gl_y rfl (y_move rfl) ?_
                    refine gl_ef (ef_buildSlice Tryd.underlying36 sz_20 zr_20 rfl rfl rfl (cs := [_]) (zl := [_]) rfl rfl (fill1 (by first | exact KIt.one x20 | rfl)) rfl) ?_
                    rintro _ _ _ ⟨b31, rfl, rfl, rfl⟩
                    refine gl_ef (ef_append Tryd.underlying36 tf_20 rfl (i := 0) rfl rfl (src_all (blk_own (i := 1) rfl)) rfl (by first | exact KIt.val_one x20 | rfl) (by first | omega | (simp only [List.length_append, List.length_cons, List.length_nil, List.length_take, List.length_drop, List.length_map, List.length_replicate, List.length_set, u8s_length, fx_length, fixed_length, turn_length]; omega)) (by first | omega | (simp only [List.length_append, List.length_cons, List.length_nil, List.length_take, List.length_drop, List.length_map, List.length_replicate, List.length_set, u8s_length, fx_length, fixed_length, turn_length]; omega)) rfl) ?_
                    rintro _ _ _ ⟨v32, rfl, rfl, rfl⟩
                    refine gl_y rfl (y_assign rfl) ?_
                    refine gl_nilslice 20 1 ?_
                    refine gl_nil ?_
                    refine gq_then' ?_
                    refine gc_region ?_
                    refine gl_y rfl (y_move rfl) ?_
                    refine gl_y rfl (y_move rfl) ?_
                    refine gl_y rfl (y_sslice_l Tryd.underlying9 rfl rfl (by omega) (by first | omega | (simp only [List.length_append, List.length_cons, List.length_nil, List.length_take, List.length_drop, List.length_map, List.length_replicate, List.length_set, u8s_length, fx_length, fixed_length, turn_length]; omega))) ?_
                    refine gl_y rfl (y_assign rfl) ?_
                    refine gl_nil ?_
                    refine gq_in_normal ?_
                    have hN := hD.next hb (itemD_plain g15 (p20.resolve_left (by omega)).2) (by omega) (by omega)
                    refine gq_M (congrArg (fun e => e :: _) (osl_snocK _ v32 o ⟨x20, false⟩)) ?_
                    refine gq_roundW (x := (⟨b, o, v⟩ : List UInt8 × List KItem × Value)) (b.drop k20.toNat, o ++ [⟨x20, false⟩], v32) ?_ ?_ (perm_one (i := 0) rfl) rfl (by repeat (first | exact Ext.refl | refine Ext.cons rfl ?_)) ?_
                    · exact hN
                    · (show (b.drop k20.toNat).length < b.length); simp; omega
                    · exact ⟨rfl, rfl, trivial⟩
                · have g25 := h25
                  try (replace g25 := of_decide_eq_false g25)
                  first
                  | exact absurd h25 (by decide)
                  | (exfalso; omega)
                  | skip
                    refine gc_skip ?_
                    refine gq_then' ?_
                    refine gc_seq ?_
                    refine gc_region ?_
                    refine gl_y rfl (y_move rfl) ?_
                    refine gl_y rfl (y_move rfl) ?_
                    refine gl_ef (ef_buildSlice Tryd.underlying36 sz_20 zr_20 rfl rfl rfl (cs := [_]) (zl := [_]) rfl rfl (fill1 (by first | exact KIt.one x20 | rfl)) rfl) ?_
                    rintro _ _ _ ⟨b31, rfl, rfl, rfl⟩
                    refine gl_ef (ef_append Tryd.underlying36 tf_20 rfl (i := 0) rfl rfl (src_all (blk_own (i := 1) rfl)) rfl (by first | exact KIt.val_one x20 | rfl) (by first | omega | (simp only [List.length_append, List.length_cons, List.length_nil, List.length_take, List.length_drop, List.length_map, List.length_replicate, List.length_set, u8s_length, fx_length, fixed_length, turn_length]; omega)) (by first | omega | (simp only [List.length_append, List.length_cons, List.length_nil, List.length_take, List.length_drop, List.length_map, List.length_replicate, List.length_set, u8s_length, fx_length, fixed_length, turn_length]; omega)) rfl) ?_
                    rintro _ _ _ ⟨v32, rfl, rfl, rfl⟩
                    refine gl_y rfl (y_assign rfl) ?_
                    refine gl_nilslice 20 1 ?_
                    refine gl_nil ?_
                    refine gq_then' ?_
                    refine gc_region ?_
                    refine gl_y rfl (y_move rfl) ?_
                    refine gl_y rfl (y_move rfl) ?_
                    refine gl_y rfl (y_sslice_l Tryd.underlying9 rfl rfl (by omega) (by first | omega | (simp only [List.length_append, List.length_cons, List.length_nil, List.length_take, List.length_drop, List.length_map, List.length_replicate, List.length_set, u8s_length, fx_length, fixed_length, turn_length]; omega))) ?_
                    refine gl_y rfl (y_assign rfl) ?_
                    refine gl_nil ?_
                    refine gq_in_normal ?_
                    have hN := hD.next hb (itemD_plain g15 (p20.resolve_left (by omega)).2) (by omega) (by omega)
                    refine gq_M (congrArg (fun e => e :: _) (osl_snocK _ v32 o ⟨x20, false⟩)) ?_
                    refine gq_roundW (x := (⟨b, o, v⟩ : List UInt8 × List KItem × Value)) (b.drop k20.toNat, o ++ [⟨x20, false⟩], v32) ?_ ?_ (perm_one (i := 0) rfl) rfl (by repeat (first | exact Ext.refl | refine Ext.cons rfl ?_)) ?_
                    · exact hN
                    · (show (b.drop k20.toNat).length < b.length); simp; omega
                    · exact ⟨rfl, rfl, trivial⟩
    · have g10 := h10
      try (replace g10 := of_decide_eq_false g10)
      first
      | exact absurd h10 (by decide)
      | (exfalso; omega)
      | skip
        refine gc_exit ?_
        refine gq_pass_exit ?_
        refine gq_pass_exit ?_
        refine gq_in_exit ?_
        refine gq_then' ?_
        refine gc_seq ?_
        refine gc_region ?_
        refine gl_y rfl (y_move rfl) ?_
        refine gl_y rfl (y_assign rfl) ?_
        refine gl_nilslice 20 1 ?_
        refine gl_y rfl (y_assign rfl) ?_
        refine gl_nil ?_
        refine gq_then' ?_
        refine gc_ret ?_
        have hN := hD.fin (Classical.not_not.1 g10)
        refine gq_r2 rfl rfl rfl (perm_one (i := 0) rfl) ?_
        exact ⟨_, by rw [hN.1], by rw [hN.2]⟩
end Go.Proofs.YtgoaclokjenpkaaDoorS
