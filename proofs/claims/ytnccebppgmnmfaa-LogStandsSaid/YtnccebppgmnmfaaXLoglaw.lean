/- loglaw: the reference of logs; the law LogWrites. -/
import Derived.Test.YtnccebppgmnmfaaSepFacts
import Derived.Test.YtnccebppgmnmfaaSepQ
import Derived.Test.YtnccebppgmnmfaaXLog
import Derived.Test.YtnccebppgmnmfaaXRefprim
set_option linter.unusedVariables false
set_option linter.unusedSimpArgs false
set_option maxRecDepth 20000
namespace Go.Proofs.YtnccebppgmnmfaaS
open Go.RowKit Go.Proofs

theorem ref_val (b : By) (a : Nat) (h : a + 6 < b.length) : IntKind.i64.wrap (((at8 b (a : Int)).toNat : Int) * 256 + ((at8 b ((a : Int) + 1)).toNat : Int)) = ((val ((b.drop a).take 2) : Nat) : Int) := by
  have h1 := toNat_lt (at8 b (a : Int))
  have h2 := toNat_lt (at8 b ((a : Int) + 1))
  rw [wr_i64 (by omega) (by omega)]
  have e : (b.drop a).take 2 = [at8 b (a : Int), at8 b ((a : Int) + 1)] := by
    have e0 : (b.drop a).take 2 = [b[a]'(by omega), b[a + 1]'(by omega)] := by
      rw [List.drop_eq_getElem_cons (show a < b.length by omega), List.drop_eq_getElem_cons (show a + 1 < b.length by omega)]; rfl
    have e1 : ((a : Int) + 1).toNat = a + 1 := by omega
    rw [e0]
    simp [at8, e1, show a < b.length by omega, show a + 1 < b.length by omega]
  rw [e]
  simp [val]
theorem val_two (b : By) : val (b.take 2) < 65536 := Nat.lt_of_lt_of_le (val_lt _) (Nat.le_trans (Nat.pow_le_pow_right (by decide) (List.length_take_le 2 b)) (by decide))
theorem oneF_short {b : By} (h : b.length ≤ 6) : oneF b = [] := by
  by_cases h6 : b.length < 6
  · rw [oneF, if_pos h6]
  · exact oneF_no rfl h6 (by omega)
theorem sl_a (b : By) (a n : Nat) : (b.take (a + 6 + n)).drop (a + 6) = ((b.drop a).take (6 + n)).drop 6 := by
  rw [List.drop_take, List.drop_take, List.drop_drop]; congr 1; omega
theorem sl_b (b : By) (a n : Nat) : (b.take (a + 6 + n)).drop a = (b.drop a).take (6 + n) := by
  rw [List.drop_take]; congr 1; omega
/-- What the reference's loop finds. -/
theorem ref_ok {b : By} {a n : Nat} (hn : n = val ((b.drop a).take 2)) (h6 : a + 6 < b.length) (h : ¬ (n < 1 ∨ n > 4000 ∨ a + 6 + n > b.length)) (hm : mk ((b.take (a + 6 + n)).drop (a + 6)) = (b.take (a + 6 + n)).drop a) :
    oneF (b.drop a) = (b.take (a + 6 + n)).drop (a + 6) ∧ oneF (b.drop a) ≠ [] ∧ (oneF (b.drop a)).length = n := by
  rw [sl_a, sl_b] at hm
  have e := oneF_ok hn (by rw [List.length_drop]; omega) (by rw [List.length_drop]; omega) hm
  have hl : (oneF (b.drop a)).length = n := by rw [e]; simp only [List.length_drop, List.length_take]; omega
  exact ⟨by rw [sl_a]; exact e, fun e2 => by rw [e2] at hl; simp at hl; omega, hl⟩
theorem ref_bent {b : By} {a n : Nat} (hn : n = val ((b.drop a).take 2)) (h6 : a + 6 < b.length) (h : ¬ (n < 1 ∨ n > 4000 ∨ a + 6 + n > b.length)) (hm : mk ((b.take (a + 6 + n)).drop (a + 6)) ≠ (b.take (a + 6 + n)).drop a) : oneF (b.drop a) = [] := by
  rw [sl_a, sl_b] at hm
  exact oneF_bent hn (by rw [List.length_drop]; omega) (by rw [List.length_drop]; omega) hm
/-- A slice of strings that is known. -/
def KS (I : PH) (v : Value) (l : List By) : Prop := ∃ A c, v = .slice A l.length c ∧ Rsl I 1 A l.length (l.map strV)
theorem KS.le {I I' : PH} {v : Value} {l : List By} (h : KS I v l) (hl : I.le I') : KS I' v l := let ⟨A, c, a, b⟩ := h; ⟨A, c, a, b.mono hl⟩
theorem ks_osl {e : Nat} {v : Value} {l : List By} {I h : PH} (a : osl e 1 v l.length (l.map strV) h) (hl : h.le I) : KS I v l := by
  obtain ⟨A, c, hv, hR⟩ := rsl_osl (I := I) (hl := h) ⟨h, .emp, a, rfl, PH.disj_emp _, (PH.union_emp _).symm⟩ hl
  exact ⟨A, c, hv, hR⟩
theorem ks_lend1 {e : Nat} {v : Value} {l : List By} {I hl : PH} (h : stars [osl e 1 v l.length (l.map strV)] hl) (hle : hl.le I) : KS I v l := by
  obtain ⟨h1, h2, a, rfl, _, rfl⟩ := h
  rw [PH.union_emp] at hle
  exact ks_osl a hle
theorem ks_lend2 {e e' : Nat} {v u : Value} {l m : List By} {I hl : PH} (h : stars [osl e 1 v l.length (l.map strV), osl e' 1 u m.length (m.map strV)] hl) (hle : hl.le I) : KS I v l ∧ KS I u m := by
  obtain ⟨h1, h2, a, ⟨h3, h4, b, rfl, _, rfl⟩, d, rfl⟩ := h
  rw [PH.union_emp] at hle d
  exact ⟨ks_osl a (PH.le_trans (PH.le_union_left _ _) hle), ks_osl b (PH.le_trans (PH.le_union_right d) hle)⟩
theorem str_get {cs : List Value} {o : Nat} {l : List By} (hc : ∀ j u, (l.map strV)[j]? = some u → cs[o + j]? = some u) {i : Nat} {x : By} (hx : l[i]? = some x) : cs[o + (i : Int).toNat * 1]? = some (strV x) := by
  rw [Nat.mul_one]; exact hc _ _ (by rw [List.getElem?_map, Int.toNat_natCast, hx]; rfl)
theorem rem41 (s : Nat) : ((s : Nat) : Int).tmod 41 = ((s % 41 : Nat) : Int) := by rw [Int.tmod_eq_emod_of_nonneg (by omega)]; omega
theorem sub_i64 (a b : Nat) (h : b ≤ a) (ha : a ≤ 1099511627776) : IntKind.i64.wrap (((a : Nat) : Int) - ((b : Nat) : Int)) = ((a - b : Nat) : Int) := by rw [wr_i64] <;> omega
theorem mul_i64 (n : Nat) (ha : n ≤ 1099511627776) : IntKind.i64.wrap (64 * ((n : Nat) : Int)) = ((64 * n : Nat) : Int) := by rw [wr_i64] <;> omega
theorem made_get (m : Nat) : ∀ j q, (zs m)[j]? = some q → ((madeCells (Value.int .u8 0).cells (m * 1)).toList)[0 + j]? = some (u8v q) := fun j q h => by
  rw [made_u8]; exact u8s_get0 j q h

theorem ref_Made (r : By) (hr : r.length ≤ 1048576) : CtrP Try.prog 47 [.string (bs r)] (fun v => v = .string (bs (mk r))) := by
  have hcs := crcSum_lt (fixed r.length 2 true ++ r)
  refine CtrP.of fun I => ?_
  refine ctr_of Try.func47 rfl (n := 18) rfl rfl ?_
  intro G R
  simp only [argL]
  refine gc_seq ?_
  refine gc_region ?_
  refine gl_y rfl (y_assign rfl) ?_
  refine gl_nil ?_
  refine gq_then' ?_
  refine gc_seq ?_
  refine gc_region ?_
  refine gl_y rfl (y_move rfl) ?_
  refine gl_y rfl (y_slen Try.underlying9 rfl) ?_
  first | refine gl_y rfl (y_conv Try.underlying3 Try.underlying24 rfl (wr_u64 (by omega) (by omega))) ?_ | refine gl_y rfl (y_conv Try.underlying3 Try.underlying24 rfl rfl) ?_
  refine gl_ef (ef_callp en_35 rfl (ref_Fixed _ 2 true (by first | omega | (simp only [List.length_append, List.length_cons, List.length_nil, List.length_take, List.length_drop, List.length_map, List.length_replicate, List.length_set, u8s_length, fx_length, fixed_length, tabTo_len, tabV_len, zs_len, mk_len]; omega)) (by first | omega | (simp only [List.length_append, List.length_cons, List.length_nil, List.length_take, List.length_drop, List.length_map, List.length_replicate, List.length_set, u8s_length, fx_length, fixed_length, tabTo_len, tabV_len, zs_len, mk_len]; omega)) (by first | omega | (simp only [List.length_append, List.length_cons, List.length_nil, List.length_take, List.length_drop, List.length_map, List.length_replicate, List.length_set, u8s_length, fx_length, fixed_length, tabTo_len, tabV_len, zs_len, mk_len]; omega))) rfl) ?_
  rintro _ _ _ ⟨v7, rfl, rfl, rfl, rfl⟩
  refine gl_y rfl (y_assign rfl) ?_
  refine gl_nil ?_
  refine gq_then' ?_
  refine gc_seq ?_
  refine gc_region ?_
  refine gl_y rfl (y_move rfl) ?_
  refine gl_y rfl (y_move rfl) ?_
  refine gl_y rfl (y_move rfl) ?_
  refine gl_y rfl (y_sadd rfl rfl (by first | omega | (simp only [List.length_append, List.length_cons, List.length_nil, List.length_take, List.length_drop, List.length_map, List.length_replicate, List.length_set, u8s_length, fx_length, fixed_length, tabTo_len, tabV_len, zs_len, mk_len]; omega))) ?_
  refine gl_ef (ef_callp en_36 rfl (ref_Sum _ (by first | omega | (simp only [List.length_append, List.length_cons, List.length_nil, List.length_take, List.length_drop, List.length_map, List.length_replicate, List.length_set, u8s_length, fx_length, fixed_length, tabTo_len, tabV_len, zs_len, mk_len]; omega))) rfl) ?_
  rintro _ _ _ ⟨v12, rfl, rfl, rfl, rfl⟩
  refine gl_y rfl (y_conv Try.underlying61 Try.underlying24 rfl (wr_u64 (by omega) (by omega))) ?_
  refine gl_ef (ef_callp en_35 rfl (ref_Fixed _ 4 true (by first | omega | (simp only [List.length_append, List.length_cons, List.length_nil, List.length_take, List.length_drop, List.length_map, List.length_replicate, List.length_set, u8s_length, fx_length, fixed_length, tabTo_len, tabV_len, zs_len, mk_len]; omega)) (by first | omega | (simp only [List.length_append, List.length_cons, List.length_nil, List.length_take, List.length_drop, List.length_map, List.length_replicate, List.length_set, u8s_length, fx_length, fixed_length, tabTo_len, tabV_len, zs_len, mk_len]; omega)) (by first | omega | (simp only [List.length_append, List.length_cons, List.length_nil, List.length_take, List.length_drop, List.length_map, List.length_replicate, List.length_set, u8s_length, fx_length, fixed_length, tabTo_len, tabV_len, zs_len, mk_len]; omega))) rfl) ?_
  rintro _ _ _ ⟨v14, rfl, rfl, rfl, rfl⟩
  refine gl_y rfl (y_sadd rfl rfl (by first | omega | (simp only [List.length_append, List.length_cons, List.length_nil, List.length_take, List.length_drop, List.length_map, List.length_replicate, List.length_set, u8s_length, fx_length, fixed_length, tabTo_len, tabV_len, zs_len, mk_len]; omega))) ?_
  refine gl_y rfl (y_move rfl) ?_
  refine gl_y rfl (y_sadd rfl rfl (by first | omega | (simp only [List.length_append, List.length_cons, List.length_nil, List.length_take, List.length_drop, List.length_map, List.length_replicate, List.length_set, u8s_length, fx_length, fixed_length, tabTo_len, tabV_len, zs_len, mk_len]; omega))) ?_
  refine gl_y rfl (y_assign rfl) ?_
  refine gl_nil ?_
  refine gq_then' ?_
  refine gc_ret ?_
  refine gq_r1 rfl rfl perm_all ?_
  exact rfl
theorem ref_Stands {I : PH} (b : By) (hb : b.length ≤ 1048576) : Ctr Try.prog 51 [.string (bs b)] I [] (fun v _ M' => ∃ A, v = .tuple #[A, .int .i64 (endF b : Int)] ∧ M' = [osl 9 1 A (standsF b).length ((standsF b).map strV)]) := by
  refine ctr_of Try.func51 rfl (n := 67) rfl rfl ?_
  intro G R
  simp only [argL]
  refine gc_seq ?_
  refine gc_region ?_
  refine gl_y rfl (y_assign rfl) ?_
  refine gl_y rfl (y_assign rfl) ?_
  refine gl_nil ?_
  refine gq_then' ?_
  refine gc_seq ?_
  refine gc_region ?_
  refine gl_y rfl (y_assign rfl) ?_
  refine gl_nilslice 9 1 ?_
  refine gl_nil ?_
  refine gq_then' ?_
  refine gc_seq ?_
  refine gc_region ?_
  refine gl_y rfl (y_assign rfl) ?_
  refine gl_nil ?_
  refine gq_then' ?_
  refine gc_seq ?_
  refine gc_block ?_
  refine gc_loopW (α := List By × Nat × Value) [8, 9, 10, 11, 12, 13, 14, 15, 16, 17, 18, 19, 20, 21, 22, 23, 6, 24, 25, 26, 27, 28, 29, 30, 31, 32, 33, 34, 35, 36, 37, 38, 39, 40, 41, 42, 43, 44, 45, 46, 7, 47, 48, 49, 50, 51, 52, 53, 54, 55, 56, 57, 58, 59, 60, 4, 61, 62, 63, 64, 5] (fun (⟨o, a, v⟩ : List By × Nat × Value) => [(4, v), (5, .int .i64 (a : Int))]) (fun (⟨o, a, v⟩ : List By × Nat × Value) => [osl 9 1 v o.length (o.map strV)]) (fun (⟨o, a, v⟩ : List By × Nat × Value) => StAt b (b.drop a) o a ∧ o.length ≤ a) (fun (⟨o, a, v⟩ : List By × Nat × Value) => (b.drop a).length) ([], 0, .slice none 0 0) ?_ perm_same ?_ ?_
  · exact ⟨StAt.zero b, Nat.le_refl _⟩
  · exact ⟨rfl, rfl, trivial⟩
  · rintro ⟨o, a, v⟩ ⟨hD, hoa⟩
    have hD1 : a ≤ b.length := hD.le
    replace hoa : o.length ≤ a := hoa
    refine gc_seq ?_
    refine gc_seq ?_
    refine gc_region ?_
    refine gl_y rfl (y_move rfl) ?_
    first | refine gl_y rfl (y_add rfl rfl (wr_i64 (by omega) (by omega))) ?_ | refine gl_y rfl (y_add rfl rfl rfl) ?_
    refine gl_y rfl (y_move rfl) ?_
    refine gl_y rfl (y_slen Try.underlying9 rfl) ?_
    refine gl_y rfl (y_lss rfl rfl) ?_
    refine gl_nil ?_
    refine gq_then' ?_
    refine gc_if rfl (fun h12 => ?_) (fun h12 => ?_)
    · have g12 := h12
      try (replace g12 := of_decide_eq_true g12)
      first
      | exact absurd h12 (by decide)
      | (exfalso; omega)
      | skip
        refine gc_skip ?_
        refine gq_then' ?_
        refine gc_block ?_
        refine gc_seq ?_
        refine gc_region_draw (N := 12) [] rfl follows_mixed (by repeat (first | exact panicOk_body | refine panicOk_then ?_ | refine panicOk_in ?_)) (by kernel_rfl) ?_ ?_
        · trivial
        · skip
          refine ga_y 0 rfl (by kernel_rfl) (by kernel_rfl) rfl (y_move rfl) ?_
          refine ga_y 1 rfl (by kernel_rfl) (by kernel_rfl) rfl (y_move rfl) ?_
          have hx1 := toNat_lt (at8 b (a : Int))
          have hx2 := toNat_lt (at8 b ((a : Int) + 1))
          have hv := val_two (b.drop a)
          refine ga_y 2 rfl (by kernel_rfl) (by kernel_rfl) rfl (y_sat Try.underlying9 rfl rfl (by omega) (by first | omega | (simp only [List.length_append, List.length_cons, List.length_nil, List.length_take, List.length_drop, List.length_map, List.length_replicate, List.length_set, u8s_length, fx_length, fixed_length, tabTo_len, tabV_len, zs_len, mk_len]; omega))) ?_
          first | refine ga_y 3 rfl (by kernel_rfl) (by kernel_rfl) rfl (y_conv Try.underlying5 Try.underlying3 rfl (wr_i64 (by omega) (by omega))) ?_ | refine ga_y 3 rfl (by kernel_rfl) (by kernel_rfl) rfl (y_conv Try.underlying5 Try.underlying3 rfl rfl) ?_
          first | refine ga_y 4 rfl (by kernel_rfl) (by kernel_rfl) rfl (y_mul rfl rfl (wr_i64 (by omega) (by omega))) ?_ | refine ga_y 4 rfl (by kernel_rfl) (by kernel_rfl) rfl (y_mul rfl rfl rfl) ?_
          refine ga_y 5 rfl (by kernel_rfl) (by kernel_rfl) rfl (y_move rfl) ?_
          refine ga_y 6 rfl (by kernel_rfl) (by kernel_rfl) rfl (y_move rfl) ?_
          first | refine ga_y 7 rfl (by kernel_rfl) (by kernel_rfl) rfl (y_add rfl rfl (wr_i64 (by omega) (by omega))) ?_ | refine ga_y 7 rfl (by kernel_rfl) (by kernel_rfl) rfl (y_add rfl rfl rfl) ?_
          refine ga_y 8 rfl (by kernel_rfl) (by kernel_rfl) rfl (y_sat Try.underlying9 rfl rfl (by omega) (by first | omega | (simp only [List.length_append, List.length_cons, List.length_nil, List.length_take, List.length_drop, List.length_map, List.length_replicate, List.length_set, u8s_length, fx_length, fixed_length, tabTo_len, tabV_len, zs_len, mk_len]; omega))) ?_
          first | refine ga_y 9 rfl (by kernel_rfl) (by kernel_rfl) rfl (y_conv Try.underlying5 Try.underlying3 rfl (wr_i64 (by omega) (by omega))) ?_ | refine ga_y 9 rfl (by kernel_rfl) (by kernel_rfl) rfl (y_conv Try.underlying5 Try.underlying3 rfl rfl) ?_
          refine ga_y 10 rfl (by kernel_rfl) (by kernel_rfl) rfl (y_add rfl rfl (ref_val b a (by omega))) ?_
          refine ga_y 11 rfl (by kernel_rfl) (by kernel_rfl) rfl (y_assign rfl) ?_
          generalize hn : val ((b.drop a).take 2) = n at hv
          replace hn := hn.symm
          refine ga_done (by kernel_rfl) ?_
          refine gq_then' ?_
          refine gc_seq ?_
          refine gc_seq ?_
          refine gc_region ?_
          refine gl_y rfl (y_move rfl) ?_
          refine gl_y rfl (y_lss rfl rfl) ?_
          refine gl_y rfl (y_move rfl) ?_
          refine gl_if (t := 26) rfl (fun h26 => ?_) (fun h26 => ?_)
          · have g26 := h26
            try (replace g26 := of_decide_eq_true g26)
            first
            | exact absurd h26 (by decide)
            | (exfalso; omega)
            | skip
              refine gl_skip rfl rfl rfl h26 rfl ?_
              refine gl_skip rfl rfl rfl h26 rfl ?_
              refine gl_y rfl (y_pick_t rfl h26 rfl) ?_
              refine gl_y rfl (y_move rfl) ?_
              refine gl_skip rfl rfl rfl rfl rfl ?_
              refine gl_skip rfl rfl rfl rfl rfl ?_
              refine gl_skip rfl rfl rfl rfl rfl ?_
              refine gl_skip rfl rfl rfl rfl rfl ?_
              refine gl_skip rfl rfl rfl rfl rfl ?_
              refine gl_skip rfl rfl rfl rfl rfl ?_
              refine gl_skip rfl rfl rfl rfl rfl ?_
              refine gl_y rfl (y_pick_t rfl rfl rfl) ?_
              refine gl_nil ?_
              refine gq_then' ?_
              refine gc_t rfl rfl ?_
              refine gc_exit ?_
              refine gq_pass_exit ?_
              refine gq_in_other rfl ?_
              refine gq_pass_exit ?_
              refine gq_in_exit ?_
              refine gq_then' ?_
              refine gc_seq ?_
              refine gc_region ?_
              refine gl_y rfl (y_move rfl) ?_
              refine gl_y rfl (y_move rfl) ?_
              refine gl_y rfl (y_assign rfl) ?_
              refine gl_y rfl (y_assign rfl) ?_
              refine gl_nil ?_
              refine gq_then' ?_
              refine gc_ret ?_
              refine gq_r2 rfl rfl rfl perm_same ?_
              have hN := hD.fin (oneF_no hn (by rw [List.length_drop]; omega) (by rw [List.length_drop]; omega))
              exact ⟨_, by rw [hN.2], by rw [hN.1]⟩
          · have g26 := h26
            try (replace g26 := of_decide_eq_false g26)
            first
            | exact absurd h26 (by decide)
            | (exfalso; omega)
            | skip
              refine gl_want rfl rfl rfl h26 ?_
              refine gl_y rfl (y_move rfl) ?_
              refine gl_want rfl rfl rfl h26 ?_
              refine gl_y rfl (y_gtr rfl rfl) ?_
              refine gl_y rfl (y_pick_f rfl h26 rfl) ?_
              refine gl_y rfl (y_move rfl) ?_
              refine gl_if (t := 30) rfl (fun h30 => ?_) (fun h30 => ?_)
              · have g30 := h30
                try (replace g30 := of_decide_eq_true g30)
                first
                | exact absurd h30 (by decide)
                | (exfalso; omega)
                | skip
                  refine gl_skip rfl rfl rfl h30 rfl ?_
                  refine gl_skip rfl rfl rfl h30 rfl ?_
                  refine gl_skip rfl rfl rfl h30 rfl ?_
                  refine gl_skip rfl rfl rfl h30 rfl ?_
                  refine gl_skip rfl rfl rfl h30 rfl ?_
                  refine gl_skip rfl rfl rfl h30 rfl ?_
                  refine gl_skip rfl rfl rfl h30 rfl ?_
                  refine gl_y rfl (y_pick_t rfl h30 rfl) ?_
                  refine gl_nil ?_
                  refine gq_then' ?_
                  refine gc_t rfl rfl ?_
                  refine gc_exit ?_
                  refine gq_pass_exit ?_
                  refine gq_in_other rfl ?_
                  refine gq_pass_exit ?_
                  refine gq_in_exit ?_
                  refine gq_then' ?_
                  refine gc_seq ?_
                  refine gc_region ?_
                  refine gl_y rfl (y_move rfl) ?_
                  refine gl_y rfl (y_move rfl) ?_
                  refine gl_y rfl (y_assign rfl) ?_
                  refine gl_y rfl (y_assign rfl) ?_
                  refine gl_nil ?_
                  refine gq_then' ?_
                  refine gc_ret ?_
                  refine gq_r2 rfl rfl rfl perm_same ?_
                  have hN := hD.fin (oneF_no hn (by rw [List.length_drop]; omega) (by rw [List.length_drop]; omega))
                  exact ⟨_, by rw [hN.2], by rw [hN.1]⟩
              · have g30 := h30
                try (replace g30 := of_decide_eq_false g30)
                first
                | exact absurd h30 (by decide)
                | (exfalso; omega)
                | skip
                  refine gl_want rfl rfl rfl h30 ?_
                  refine gl_y rfl (y_move rfl) ?_
                  refine gl_want rfl rfl rfl h30 ?_
                  first | refine gl_y rfl (y_add rfl rfl (wr_i64 (by omega) (by omega))) ?_ | refine gl_y rfl (y_add rfl rfl rfl) ?_
                  refine gl_want rfl rfl rfl h30 ?_
                  refine gl_y rfl (y_move rfl) ?_
                  refine gl_want rfl rfl rfl h30 ?_
                  first | refine gl_y rfl (y_add rfl rfl (wr_i64 (by omega) (by omega))) ?_ | refine gl_y rfl (y_add rfl rfl rfl) ?_
                  refine gl_want rfl rfl rfl h30 ?_
                  refine gl_y rfl (y_move rfl) ?_
                  refine gl_want rfl rfl rfl h30 ?_
                  refine gl_y rfl (y_slen Try.underlying9 rfl) ?_
                  refine gl_want rfl rfl rfl h30 ?_
                  refine gl_y rfl (y_gtr rfl rfl) ?_
                  refine gl_y rfl (y_pick_f rfl h30 rfl) ?_
                  refine gl_nil ?_
                  refine gq_then' ?_
                  refine gc_if rfl (fun h38 => ?_) (fun h38 => ?_)
                  · have g38 := h38
                    try (replace g38 := of_decide_eq_true g38)
                    first
                    | exact absurd h38 (by decide)
                    | (exfalso; omega)
                    | skip
                      refine gc_exit ?_
                      refine gq_pass_exit ?_
                      refine gq_in_other rfl ?_
                      refine gq_pass_exit ?_
                      refine gq_in_exit ?_
                      refine gq_then' ?_
                      refine gc_seq ?_
                      refine gc_region ?_
                      refine gl_y rfl (y_move rfl) ?_
                      refine gl_y rfl (y_move rfl) ?_
                      refine gl_y rfl (y_assign rfl) ?_
                      refine gl_y rfl (y_assign rfl) ?_
                      refine gl_nil ?_
                      refine gq_then' ?_
                      refine gc_ret ?_
                      refine gq_r2 rfl rfl rfl perm_same ?_
                      have hN := hD.fin (oneF_no hn (by rw [List.length_drop]; omega) (by rw [List.length_drop]; omega))
                      exact ⟨_, by rw [hN.2], by rw [hN.1]⟩
                  · have g38 := h38
                    try (replace g38 := of_decide_eq_false g38)
                    first
                    | exact absurd h38 (by decide)
                    | (exfalso; omega)
                    | skip
                      refine gc_skip ?_
                      refine gq_then' ?_
                      refine gc_seq ?_
                      refine gc_region ?_
                      refine gl_y rfl (y_move rfl) ?_
                      refine gl_y rfl (y_move rfl) ?_
                      first | refine gl_y rfl (y_add rfl rfl (wr_i64 (by omega) (by omega))) ?_ | refine gl_y rfl (y_add rfl rfl rfl) ?_
                      refine gl_y rfl (y_move rfl) ?_
                      first | refine gl_y rfl (y_add rfl rfl (wr_i64 (by omega) (by omega))) ?_ | refine gl_y rfl (y_add rfl rfl rfl) ?_
                      refine gl_y rfl (y_move rfl) ?_
                      first | refine gl_y rfl (y_add rfl rfl (wr_i64 (by omega) (by omega))) ?_ | refine gl_y rfl (y_add rfl rfl rfl) ?_
                      refine gl_y rfl (y_sslice Try.underlying9 rfl rfl rfl (by omega) (by omega) (by first | omega | (simp only [List.length_append, List.length_cons, List.length_nil, List.length_take, List.length_drop, List.length_map, List.length_replicate, List.length_set, u8s_length, fx_length, fixed_length, tabTo_len, tabV_len, zs_len, mk_len]; omega))) ?_
                      refine gl_y rfl (y_assign rfl) ?_
                      refine gl_nil ?_
                      refine gq_then' ?_
                      refine gc_seq ?_
                      refine gc_seq ?_
                      refine gc_region_draw (N := 10) [] rfl follows_mixed (by repeat (first | exact panicOk_body | refine panicOk_then ?_ | refine panicOk_in ?_)) (by kernel_rfl) ?_ ?_
                      · trivial
                      · skip
                        refine ga_y 0 rfl (by kernel_rfl) (by kernel_rfl) rfl (y_move rfl) ?_
                        refine ga_y 2 rfl (by kernel_rfl) (by kernel_rfl) rfl (y_move rfl) ?_
                        refine ga_y 3 rfl (by kernel_rfl) (by kernel_rfl) rfl (y_move rfl) ?_
                        refine ga_y 4 rfl (by kernel_rfl) (by kernel_rfl) rfl (y_move rfl) ?_
                        first | refine ga_y 5 rfl (by kernel_rfl) (by kernel_rfl) rfl (y_add rfl rfl (wr_i64 (by omega) (by omega))) ?_ | refine ga_y 5 rfl (by kernel_rfl) (by kernel_rfl) rfl (y_add rfl rfl rfl) ?_
                        refine ga_y 6 rfl (by kernel_rfl) (by kernel_rfl) rfl (y_move rfl) ?_
                        first | refine ga_y 7 rfl (by kernel_rfl) (by kernel_rfl) rfl (y_add rfl rfl (wr_i64 (by omega) (by omega))) ?_ | refine ga_y 7 rfl (by kernel_rfl) (by kernel_rfl) rfl (y_add rfl rfl rfl) ?_
                        refine ga_y 8 rfl (by kernel_rfl) (by kernel_rfl) rfl (y_sslice Try.underlying9 rfl rfl rfl (by omega) (by omega) (by first | omega | (simp only [List.length_append, List.length_cons, List.length_nil, List.length_take, List.length_drop, List.length_map, List.length_replicate, List.length_set, u8s_length, fx_length, fixed_length, tabTo_len, tabV_len, zs_len, mk_len]; omega))) ?_
                        refine ga_all1 (i := 1) (by kernel_rfl) ?_
                        · skip
                          refine gb_ef rfl (ef_callp en_47 rfl (ref_Made _ (by simp only [List.length_take, List.length_drop]; omega)) rfl) ?_
                          rintro _ _ _ ⟨v48, rfl, rfl, rfl, rfl⟩
                          refine ⟨sat_S (bl := []) trivial, ?_⟩
                          refine ga_y 9 rfl (by kernel_rfl) (by kernel_rfl) rfl (y_sneq rfl rfl) ?_
                          refine ga_done (by kernel_rfl) ?_
                          refine gq_then' ?_
                          refine gc_if rfl (fun h56 => ?_) (fun h56 => ?_)
                          · have g56 := h56
                            try (replace g56 := of_decide_eq_true g56)
                            first
                            | exact absurd h56 (by decide)
                            | (exfalso; omega)
                            | skip
                              refine gc_exit ?_
                              refine gq_pass_exit ?_
                              refine gq_in_other rfl ?_
                              refine gq_pass_exit ?_
                              refine gq_in_exit ?_
                              refine gq_then' ?_
                              refine gc_seq ?_
                              refine gc_region ?_
                              refine gl_y rfl (y_move rfl) ?_
                              refine gl_y rfl (y_move rfl) ?_
                              refine gl_y rfl (y_assign rfl) ?_
                              refine gl_y rfl (y_assign rfl) ?_
                              refine gl_nil ?_
                              refine gq_then' ?_
                              refine gc_ret ?_
                              refine gq_r2 rfl rfl rfl perm_same ?_
                              have hN := hD.fin (ref_bent hn (by omega) (by omega) g56)
                              exact ⟨_, by rw [hN.2], by rw [hN.1]⟩
                          · have g56 := h56
                            try (replace g56 := of_decide_eq_false g56)
                            first
                            | exact absurd h56 (by decide)
                            | (exfalso; omega)
                            | skip
                              refine gc_skip ?_
                              refine gq_then' ?_
                              refine gc_seq ?_
                              refine gc_region ?_
                              refine gl_y rfl (y_move rfl) ?_
                              refine gl_y rfl (y_move rfl) ?_
                              refine gl_ef (ef_buildSlice Try.underlying76 sz_9 zr_9 rfl rfl rfl (cs := [_]) (zl := [_]) rfl rfl rfl rfl) ?_
                              rintro _ _ _ ⟨b59, rfl, rfl, rfl⟩
                              refine gl_ef (ef_append Try.underlying76 tf_9 rfl (i := 0) rfl rfl (src_all (blk_own (i := 1) rfl)) rfl rfl (by first | omega | (simp only [List.length_append, List.length_cons, List.length_nil, List.length_take, List.length_drop, List.length_map, List.length_replicate, List.length_set, u8s_length, fx_length, fixed_length, tabTo_len, tabV_len, zs_len, mk_len]; omega)) (by first | omega | (simp only [List.length_append, List.length_cons, List.length_nil, List.length_take, List.length_drop, List.length_map, List.length_replicate, List.length_set, u8s_length, fx_length, fixed_length, tabTo_len, tabV_len, zs_len, mk_len]; omega)) rfl) ?_
                              rintro _ _ _ ⟨v60, rfl, rfl, rfl⟩
                              refine gl_y rfl (y_assign rfl) ?_
                              refine gl_nilslice 9 1 ?_
                              refine gl_nil ?_
                              refine gq_then' ?_
                              refine gc_region ?_
                              have hok := ref_ok hn (by omega) (by omega) (Classical.not_not.1 g56)
                              refine gl_y rfl (y_move rfl) ?_
                              refine gl_y rfl (y_move rfl) ?_
                              first | refine gl_y rfl (y_add rfl rfl (wr_i64 (by omega) (by omega))) ?_ | refine gl_y rfl (y_add rfl rfl rfl) ?_
                              first | refine gl_y rfl (y_add rfl rfl (wr_i64 (by omega) (by omega))) ?_ | refine gl_y rfl (y_add rfl rfl rfl) ?_
                              refine gl_y rfl (y_assign rfl) ?_
                              refine gl_nil ?_
                              refine gq_in_normal ?_
                              have hN := hD.next hok.2.1
                              rw [List.drop_drop] at hN
                              refine gq_M (congrArg (fun e => e :: _) ((congrArg (fun r => osl _ 1 v60 _ (o.map strV ++ [strV r])) hok.1.symm).trans (osl_snocS _ v60 o (oneF (b.drop a))))) ?_
                              refine gq_roundW (x := (⟨o, a, v⟩ : List By × Nat × Value)) (o ++ [oneF (b.drop a)], a + (6 + (oneF (b.drop a)).length), v60) ?_ ?_ (perm_one (i := 0) rfl) rfl (by repeat (first | exact Ext.refl | refine Ext.cons rfl ?_)) ?_
                              · exact ⟨hN, by (show (o ++ [oneF (b.drop a)]).length ≤ a + (6 + (oneF (b.drop a)).length)); simp; omega⟩
                              · (show (b.drop (a + (6 + (oneF (b.drop a)).length))).length < (b.drop a).length); simp only [List.length_drop]; omega
                              · exact ⟨rfl, congrArg (fun m : Nat => some (Value.int .i64 ((a : Int) + (6 + (m : Int))))) hok.2.2.symm, trivial⟩
    · have g12 := h12
      try (replace g12 := of_decide_eq_false g12)
      first
      | exact absurd h12 (by decide)
      | (exfalso; omega)
      | skip
        refine gc_exit ?_
        refine gq_pass_exit ?_
        refine gq_pass_exit ?_
        refine gq_in_exit ?_
        refine gq_then' ?_
        refine gc_seq ?_
        refine gc_region ?_
        refine gl_y rfl (y_move rfl) ?_
        refine gl_y rfl (y_move rfl) ?_
        refine gl_y rfl (y_assign rfl) ?_
        refine gl_y rfl (y_assign rfl) ?_
        refine gl_nil ?_
        refine gq_then' ?_
        refine gc_ret ?_
        refine gq_r2 rfl rfl rfl perm_same ?_
        have hN := hD.fin (oneF_short (by rw [List.length_drop]; omega))
        exact ⟨_, by rw [hN.2], by rw [hN.1]⟩
theorem ref_Few08 (va : Value) (l : List By) (n s : Nat) (hn : n < 300) (hs : s ≤ 1000000) : CtrQ Try.prog 42 [va, .int .i64 (n : Int), .int .i64 (s : Int)] (fun I => KS I va l) (fun v => ∃ b : Bool, v = .bool b ∧ (b = true → l.length ≤ n ∧ ∀ x ∈ l, x.length ≤ s)) := by
  refine CtrQ.of fun I hK => ?_
  obtain ⟨A, c, rfl, hR⟩ := hK
  refine ctr_of Try.func42 rfl (n := 29) rfl rfl ?_
  intro G R
  simp only [argL]
  refine gc_seq ?_
  refine gc_region ?_
  refine gl_y rfl (y_assign rfl) ?_
  refine gl_nil ?_
  refine gq_then' ?_
  refine gc_seq ?_
  refine gc_seq ?_
  refine gc_region ?_
  refine gl_y rfl (y_assign rfl) ?_
  refine gl_nil ?_
  refine gq_then' ?_
  refine gc_block ?_
  refine gc_loopW (α := Nat) [8, 9, 10, 11, 12, 13, 14, 15, 18, 19, 20, 21, 22, 23, 24, 6, 16, 17, 7] (fun (i : Nat) => [(7, .int .i64 (i : Int))]) (fun (i : Nat) => []) (fun (i : Nat) => i ≤ l.length ∧ i ≤ 300 ∧ ∀ j x, j < i → l[j]? = some x → x.length ≤ s) (fun (i : Nat) => l.length - i) 0 ?_ perm_all ?_ ?_
  · exact ⟨Nat.zero_le _, Nat.zero_le _, fun j x h => absurd h (Nat.not_lt_zero _)⟩
  · exact ⟨rfl, trivial⟩
  · rintro i ⟨hi, hi3, hj⟩
    refine gc_seq ?_
    refine gc_seq ?_
    refine gc_region ?_
    refine gl_y rfl (y_move rfl) ?_
    refine gl_y rfl (y_move rfl) ?_
    refine gl_y rfl (y_len Try.underlying76 rfl) ?_
    refine gl_y rfl (y_lss rfl rfl) ?_
    refine gl_y rfl (y_move rfl) ?_
    refine gl_if (t := 12) rfl (fun h12 => ?_) (fun h12 => ?_)
    · have g12 := h12
      try (replace g12 := of_decide_eq_true g12)
      first
      | exact absurd h12 (by decide)
      | (exfalso; omega)
      | skip
        refine gl_want rfl rfl rfl h12 ?_
        refine gl_y rfl (y_move rfl) ?_
        refine gl_want rfl rfl rfl h12 ?_
        refine gl_y rfl (y_lss rfl rfl) ?_
        refine gl_y rfl (y_pick_t rfl h12 rfl) ?_
        refine gl_nil ?_
        refine gq_then' ?_
        refine gc_if rfl (fun h15 => ?_) (fun h15 => ?_)
        · have g15 := h15
          try (replace g15 := of_decide_eq_true g15)
          first
          | exact absurd h15 (by decide)
          | (exfalso; omega)
          | skip
            refine gc_skip ?_
            refine gq_then' ?_
            refine gc_seq ?_
            refine gc_block ?_
            refine gc_seq ?_
            refine gc_region ?_
            refine gl_y rfl (y_move rfl) ?_
            refine gl_y rfl (y_move rfl) ?_
            obtain ⟨x, hx⟩ : ∃ x, l[i]? = some x := ⟨_, List.getElem?_eq_getElem (by omega)⟩
            have hxm := List.mem_of_getElem? hx
            obtain ⟨b, o, t, fz3, cs, hA, hI, hc⟩ := hR.pos (by omega)
            refine gl_y rfl (y_iaddrA Try.underlying76 sz_9 rfl hA rfl (by omega) (by omega)) ?_
            refine gl_y rfl (y_load ag_9 rfl (blk_known hI) (str_get hc hx)) ?_
            refine gl_y rfl (y_slen Try.underlying9 rfl) ?_
            refine gl_y rfl (y_move rfl) ?_
            refine gl_y rfl (y_gtr rfl rfl) ?_
            refine gl_nil ?_
            refine gq_then' ?_
            refine gc_if rfl (fun h24 => ?_) (fun h24 => ?_)
            · have g24 := h24
              try (replace g24 := of_decide_eq_true g24)
              first
              | exact absurd h24 (by decide)
              | (exfalso; omega)
              | skip
                refine gc_seq ?_
                refine gc_region ?_
                refine gl_y rfl (y_assign rfl) ?_
                refine gl_nil ?_
                refine gq_then' ?_
                refine gc_ret ?_
                refine gq_in_ret ?_
                refine gq_pass_ret ?_
                refine gq_pass_ret ?_
                refine gq_in_ret ?_
                refine gq_pass_ret ?_
                refine gq_r1 rfl rfl perm_all ?_
                first
                  | exact ⟨_, rfl, fun h => by cases h⟩
                  | (refine ⟨_, rfl, fun h => ?_⟩; have h := of_decide_eq_true h; refine ⟨by omega, fun x hx => ?_⟩; obtain ⟨j, e⟩ := List.mem_iff_getElem?.1 hx; exact hj j x (by have := (List.getElem?_eq_some_iff.1 e).1; omega) e)
            · have g24 := h24
              try (replace g24 := of_decide_eq_false g24)
              first
              | exact absurd h24 (by decide)
              | (exfalso; omega)
              | skip
                refine gc_skip ?_
                refine gq_in_normal ?_
                refine gq_then' ?_
                refine gc_region ?_
                refine gl_y rfl (y_move rfl) ?_
                first | refine gl_y rfl (y_add rfl rfl (wr_i64 (by omega) (by omega))) ?_ | refine gl_y rfl (y_add rfl rfl rfl) ?_
                refine gl_y rfl (y_assign rfl) ?_
                refine gl_nil ?_
                refine gq_roundW (i + 1) ?_ ?_ perm_all rfl (by repeat (first | exact Ext.refl | refine Ext.cons rfl ?_)) ?_
                · exact ⟨by omega, by omega, fun j x2 h e => by
                      by_cases hm : j = i
                      · subst hm; rw [hx] at e; cases e; omega
                      · exact hj j x2 (by omega) e⟩
                · (show l.length - (i + 1) < l.length - i); omega
                · exact ⟨rfl, trivial⟩
        · have g15 := h15
          try (replace g15 := of_decide_eq_false g15)
          first
          | exact absurd h15 (by decide)
          | (exfalso; omega)
          | skip
            refine gc_exit ?_
            refine gq_pass_exit ?_
            refine gq_pass_exit ?_
            refine gq_in_exit ?_
            refine gq_then' ?_
            refine gc_seq ?_
            refine gc_region ?_
            refine gl_y rfl (y_move rfl) ?_
            refine gl_y rfl (y_len Try.underlying76 rfl) ?_
            refine gl_y rfl (y_move rfl) ?_
            refine gl_y rfl (y_leq rfl rfl) ?_
            refine gl_y rfl (y_assign rfl) ?_
            refine gl_nil ?_
            refine gq_then' ?_
            refine gc_ret ?_
            refine gq_r1 rfl rfl perm_all ?_
            first
              | exact ⟨_, rfl, fun h => by cases h⟩
              | (refine ⟨_, rfl, fun h => ?_⟩; have h := of_decide_eq_true h; refine ⟨by omega, fun x hx => ?_⟩; obtain ⟨j, e⟩ := List.mem_iff_getElem?.1 hx; exact hj j x (by have := (List.getElem?_eq_some_iff.1 e).1; omega) e)
    · have g12 := h12
      try (replace g12 := of_decide_eq_false g12)
      first
      | exact absurd h12 (by decide)
      | (exfalso; omega)
      | skip
        refine gl_skip rfl rfl rfl h12 rfl ?_
        refine gl_skip rfl rfl rfl h12 rfl ?_
        refine gl_y rfl (y_pick_f rfl h12 rfl) ?_
        refine gl_nil ?_
        refine gq_then' ?_
        refine gc_f rfl rfl ?_
        refine gc_exit ?_
        refine gq_pass_exit ?_
        refine gq_pass_exit ?_
        refine gq_in_exit ?_
        refine gq_then' ?_
        refine gc_seq ?_
        refine gc_region ?_
        refine gl_y rfl (y_move rfl) ?_
        refine gl_y rfl (y_len Try.underlying76 rfl) ?_
        refine gl_y rfl (y_move rfl) ?_
        refine gl_y rfl (y_leq rfl rfl) ?_
        refine gl_y rfl (y_assign rfl) ?_
        refine gl_nil ?_
        refine gq_then' ?_
        refine gc_ret ?_
        refine gq_r1 rfl rfl perm_all ?_
        first
          | exact ⟨_, rfl, fun h => by cases h⟩
          | (refine ⟨_, rfl, fun h => ?_⟩; have h := of_decide_eq_true h; refine ⟨by omega, fun x hx => ?_⟩; obtain ⟨j, e⟩ := List.mem_iff_getElem?.1 hx; exact hj j x (by have := (List.getElem?_eq_some_iff.1 e).1; omega) e)
theorem ref_Common (va vb : Value) (l : List By) (hl : l.length ≤ 1099511627776) : CtrQ Try.prog 135 [va, vb] (fun I => KS I va l ∧ KS I vb l) (fun v => v = .int .i64 (l.length : Int)) := by
  refine CtrQ.of fun I hK => ?_
  obtain ⟨⟨A, c, rfl, hR⟩, ⟨B, c2, rfl, hR2⟩⟩ := hK
  refine ctr_of Try.func135 rfl (n := 30) rfl rfl ?_
  intro G R
  simp only [argL]
  refine gc_seq ?_
  refine gc_region ?_
  refine gl_y rfl (y_assign rfl) ?_
  refine gl_nil ?_
  refine gq_then' ?_
  refine gc_seq ?_
  refine gc_seq ?_
  refine gc_region ?_
  refine gl_y rfl (y_assign rfl) ?_
  refine gl_nil ?_
  refine gq_then' ?_
  refine gc_block ?_
  refine gc_loopW (α := Nat) [6, 7, 8, 9, 12, 13, 14, 15, 16, 17, 18, 19, 20, 21, 22, 23, 24, 25, 26, 27, 4, 10, 11, 5] (fun (i : Nat) => [(5, .int .i64 (i : Int))]) (fun (i : Nat) => []) (fun (i : Nat) => i ≤ l.length) (fun (i : Nat) => l.length - i) 0 ?_ perm_all ?_ ?_
  · exact Nat.zero_le _
  · exact ⟨rfl, trivial⟩
  · rintro i hi
    refine gc_seq ?_
    refine gc_seq ?_
    refine gc_region ?_
    refine gl_y rfl (y_move rfl) ?_
    refine gl_y rfl (y_move rfl) ?_
    refine gl_y rfl (y_len Try.underlying76 rfl) ?_
    refine gl_y rfl (y_lss rfl rfl) ?_
    refine gl_nil ?_
    refine gq_then' ?_
    refine gc_if rfl (fun h9 => ?_) (fun h9 => ?_)
    · have g9 := h9
      try (replace g9 := of_decide_eq_true g9)
      first
      | exact absurd h9 (by decide)
      | (exfalso; omega)
      | skip
        refine gc_skip ?_
        refine gq_then' ?_
        refine gc_seq ?_
        refine gc_block ?_
        refine gc_seq ?_
        obtain ⟨x, hx⟩ : ∃ x, l[i]? = some x := ⟨_, List.getElem?_eq_getElem (by omega)⟩
        have hxm := List.mem_of_getElem? hx
        obtain ⟨b, o, t, fz3, cs, hA, hI, hc⟩ := hR.pos (by omega)
        obtain ⟨b2, o2, t2, fz4, cs2, hA2, hI2, hc2⟩ := hR2.pos (by omega)
        refine gc_region_draw (N := 15) [(b, cs), (b2, cs2)] rfl follows_mixed (by repeat (first | exact panicOk_body | refine panicOk_then ?_ | refine panicOk_in ?_)) (by kernel_rfl) ?_ ?_
        · exact ⟨blk_known hI, blk_known hI2, trivial⟩
        · skip
          refine ga_y 0 rfl (by kernel_rfl) (by kernel_rfl) rfl (y_move rfl) ?_
          refine ga_y 1 rfl (by kernel_rfl) (by kernel_rfl) rfl (y_move rfl) ?_
          refine ga_y 2 rfl (by kernel_rfl) (by kernel_rfl) rfl (y_len Try.underlying76 rfl) ?_
          refine ga_y 3 rfl (by kernel_rfl) (by kernel_rfl) rfl (y_geq rfl rfl) ?_
          refine ga_y 4 rfl (by kernel_rfl) (by kernel_rfl) rfl (y_move rfl) ?_
          refine ga_if (t := 16) rfl (fun h16 => ?_) (fun h16 => ?_)
          · have g16 := h16
            try (replace g16 := of_decide_eq_true g16)
            first
            | exact absurd h16 (by decide)
            | (exfalso; omega)
            | skip
              refine ga_skip 5 rfl rfl rfl rfl h16 (by kernel_rfl) (by kernel_rfl) rfl ?_
              refine ga_skip 6 rfl rfl rfl rfl h16 (by kernel_rfl) (by kernel_rfl) rfl ?_
              refine ga_skip 7 rfl rfl rfl rfl h16 (by kernel_rfl) (by kernel_rfl) rfl ?_
              refine ga_skip 8 rfl rfl rfl rfl h16 (by kernel_rfl) (by kernel_rfl) rfl ?_
              refine ga_skip 9 rfl rfl rfl rfl h16 (by kernel_rfl) (by kernel_rfl) rfl ?_
              refine ga_skip 10 rfl rfl rfl rfl h16 (by kernel_rfl) (by kernel_rfl) rfl ?_
              refine ga_skip 11 rfl rfl rfl rfl h16 (by kernel_rfl) (by kernel_rfl) rfl ?_
              refine ga_skip 12 rfl rfl rfl rfl h16 (by kernel_rfl) (by kernel_rfl) rfl ?_
              refine ga_skip 13 rfl rfl rfl rfl h16 (by kernel_rfl) (by kernel_rfl) rfl ?_
              refine ga_y 14 rfl (by kernel_rfl) (by kernel_rfl) rfl (y_pick_t rfl h16 rfl) ?_
              refine ga_done (by kernel_rfl) ?_
              refine gq_then' ?_
              refine gc_t rfl rfl ?_
              refine gc_seq ?_
              refine gc_region ?_
              refine gl_y rfl (y_move rfl) ?_
              refine gl_y rfl (y_assign rfl) ?_
              refine gl_nil ?_
              refine gq_then' ?_
              refine gc_ret ?_
              refine gq_in_ret ?_
              refine gq_pass_ret ?_
              refine gq_pass_ret ?_
              refine gq_in_ret ?_
              refine gq_pass_ret ?_
              refine gq_r1 rfl rfl perm_all ?_
              exact rfl
          · have g16 := h16
            try (replace g16 := of_decide_eq_false g16)
            first
            | exact absurd h16 (by decide)
            | (exfalso; omega)
            | skip
              refine ga_want 5 rfl rfl rfl rfl h16 (by kernel_rfl) (by kernel_rfl) rfl (y_move rfl) ?_
              refine ga_want 6 rfl rfl rfl rfl h16 (by kernel_rfl) (by kernel_rfl) rfl (y_move rfl) ?_
              refine ga_want 7 rfl rfl rfl rfl h16 (by kernel_rfl) (by kernel_rfl) rfl (y_iaddrA Try.underlying76 sz_9 rfl hA rfl (by omega) (by omega)) ?_
              refine ga_want 8 rfl rfl rfl rfl h16 (by kernel_rfl) (by kernel_rfl) rfl (y_load ag_9 rfl (blk_S (k := 0) rfl) (str_get hc hx)) ?_
              refine ga_want 9 rfl rfl rfl rfl h16 (by kernel_rfl) (by kernel_rfl) rfl (y_move rfl) ?_
              refine ga_want 10 rfl rfl rfl rfl h16 (by kernel_rfl) (by kernel_rfl) rfl (y_move rfl) ?_
              refine ga_want 11 rfl rfl rfl rfl h16 (by kernel_rfl) (by kernel_rfl) rfl (y_iaddrA Try.underlying76 sz_9 rfl hA2 rfl (by omega) (by omega)) ?_
              refine ga_want 12 rfl rfl rfl rfl h16 (by kernel_rfl) (by kernel_rfl) rfl (y_load ag_9 rfl (blk_S (k := 1) rfl) (str_get hc2 hx)) ?_
              refine ga_want 13 rfl rfl rfl rfl h16 (by kernel_rfl) (by kernel_rfl) rfl (y_sneq rfl rfl) ?_
              refine ga_y 14 rfl (by kernel_rfl) (by kernel_rfl) rfl (y_pick_f rfl h16 rfl) ?_
              refine ga_done (by kernel_rfl) ?_
              refine gq_then' ?_
              refine gc_f rfl (decide_eq_false (fun h => h rfl)) ?_
              refine gc_skip ?_
              refine gq_in_normal ?_
              refine gq_then' ?_
              refine gc_region ?_
              refine gl_y rfl (y_move rfl) ?_
              first | refine gl_y rfl (y_add rfl rfl (wr_i64 (by omega) (by omega))) ?_ | refine gl_y rfl (y_add rfl rfl rfl) ?_
              refine gl_y rfl (y_assign rfl) ?_
              refine gl_nil ?_
              refine gq_roundW (i + 1) ?_ ?_ perm_all rfl (by repeat (first | exact Ext.refl | refine Ext.cons rfl ?_)) ?_
              · omega
              · (show l.length - (i + 1) < l.length - i); omega
              · exact ⟨rfl, trivial⟩
    · have g9 := h9
      try (replace g9 := of_decide_eq_false g9)
      first
      | exact absurd h9 (by decide)
      | (exfalso; omega)
      | skip
        refine gc_exit ?_
        refine gq_pass_exit ?_
        refine gq_pass_exit ?_
        refine gq_in_exit ?_
        refine gq_then' ?_
        refine gc_seq ?_
        refine gc_region ?_
        refine gl_y rfl (y_move rfl) ?_
        refine gl_y rfl (y_len Try.underlying76 rfl) ?_
        refine gl_y rfl (y_assign rfl) ?_
        refine gl_nil ?_
        refine gq_then' ?_
        refine gc_ret ?_
        refine gq_r1 rfl rfl perm_all ?_
        exact rfl
theorem ref_Same08 (va vb : Value) (l : List By) (hl : l.length ≤ 1099511627776) : CtrQ Try.prog 49 [va, vb] (fun I => KS I va l ∧ KS I vb l) (fun v => v = .bool true) := by
  refine CtrQ.of fun I hK => ?_
  have hK1 := hK
  obtain ⟨⟨A, c, rfl, hR⟩, ⟨B, c2, rfl, hR2⟩⟩ := hK1
  refine ctr_of Try.func49 rfl (n := 18) rfl rfl ?_
  intro G R
  simp only [argL]
  refine gc_seq ?_
  refine gc_region ?_
  refine gl_y rfl (y_assign rfl) ?_
  refine gl_nil ?_
  refine gq_then' ?_
  refine gc_seq ?_
  refine gc_region ?_
  refine gl_y rfl (y_move rfl) ?_
  refine gl_y rfl (y_len Try.underlying76 rfl) ?_
  refine gl_y rfl (y_move rfl) ?_
  refine gl_y rfl (y_len Try.underlying76 rfl) ?_
  refine gl_y rfl (y_eql rfl rfl) ?_
  refine gl_y rfl (y_move rfl) ?_
  refine gl_want rfl rfl rfl (decide_eq_true rfl) ?_
  refine gl_y rfl (y_move rfl) ?_
  refine gl_want rfl rfl rfl (decide_eq_true rfl) ?_
  refine gl_y rfl (y_move rfl) ?_
  refine gl_want rfl rfl rfl (decide_eq_true rfl) ?_
  refine gl_ef (ef_callq en_135 rfl (ref_Common _ _ l hl) perm_all (fun _ _ _ _ h => ⟨hK.1.le h, hK.2.le h⟩) rfl) ?_
  rintro _ _ _ ⟨v13, rfl, rfl, rfl, rfl⟩
  refine gl_want rfl rfl rfl (decide_eq_true rfl) ?_
  refine gl_y rfl (y_move rfl) ?_
  refine gl_want rfl rfl rfl (decide_eq_true rfl) ?_
  refine gl_y rfl (y_len Try.underlying76 rfl) ?_
  refine gl_want rfl rfl rfl (decide_eq_true rfl) ?_
  refine gl_y rfl (y_eql rfl rfl) ?_
  refine gl_y rfl (y_pick_t rfl (decide_eq_true rfl) rfl) ?_
  refine gl_y rfl (y_assign rfl) ?_
  refine gl_nil ?_
  refine gq_then' ?_
  refine gc_ret ?_
  refine gq_r1 rfl rfl perm_all ?_
  first | exact rfl | (rw [decide_eq_true rfl])
theorem law_bytes08 (d : Nat) (F : By) (k n : Nat) (hF : F.length = 64 * n) (hn : n ≤ 4096) (hkm : k ≤ 1099511627776) : CtrQ Try.prog 48 [.pointer (some ⟨d, 0, none⟩)] (fun I => DK I d F k) (fun v => v = strV F) := by
  refine CtrQ.of fun I hK => ?_
  refine ctr_of Try.func48 rfl (n := 25) rfl rfl ?_
  intro G R
  simp only [argL]
  refine gc_seq ?_
  refine gc_region ?_
  refine gl_y rfl (y_assign rfl) ?_
  refine gl_nil ?_
  refine gq_then' ?_
  refine gc_seq ?_
  refine gc_region ?_
  refine gl_y rfl (y_assign rfl) ?_
  refine gl_nil ?_
  refine gq_then' ?_
  refine gc_seq ?_
  refine gc_seq ?_
  refine gc_region ?_
  refine gl_y rfl (y_assign rfl) ?_
  refine gl_nil ?_
  refine gq_then' ?_
  refine gc_block ?_
  refine gc_loopW (α := Nat) [7, 8, 9, 10, 14, 15, 16, 13, 17, 18, 5, 6, 19, 20, 2, 21, 22, 23, 3, 11, 12, 4] (fun (i : Nat) => [(4, .int .i64 (i : Int)), (3, .string (bs (F.take (64 * i))))]) (fun (i : Nat) => []) (fun (i : Nat) => i ≤ n) (fun (i : Nat) => n - i) 0 ?_ perm_all ?_ ?_
  · exact Nat.zero_le _
  · exact ⟨rfl, rfl, trivial⟩
  · rintro i hi
    have hsl := fun h => sec_len (i := i) hF h
    refine gc_seq ?_
    refine gc_seq ?_
    refine gc_region ?_
    refine gl_y rfl (y_move rfl) ?_
    refine gl_y rfl (y_move rfl) ?_
    refine gl_ef (ef_callq en_53 rfl (disk_Sectors _ F k n hF) perm_all (fun _ _ _ _ h => hK.le h) rfl) ?_
    rintro _ _ _ ⟨v9, rfl, rfl, rfl, rfl⟩
    refine gl_y rfl (y_lss rfl rfl) ?_
    refine gl_nil ?_
    refine gq_then' ?_
    refine gc_if rfl (fun h10 => ?_) (fun h10 => ?_)
    · have g10 := h10
      try (replace g10 := of_decide_eq_true g10)
      first
      | exact absurd h10 (by decide)
      | (exfalso; omega)
      | skip
        refine gc_skip ?_
        refine gq_then' ?_
        refine gc_seq ?_
        refine gc_block ?_
        refine gc_seq ?_
        refine gc_region ?_
        refine gl_y rfl (y_move rfl) ?_
        refine gl_y rfl (y_move rfl) ?_
        refine gl_ef (ef_callq en_128 rfl (disk_ReadN _ F k n i hF hkm (by first | omega | (simp only [List.length_append, List.length_cons, List.length_nil, List.length_take, List.length_drop, List.length_map, List.length_replicate, List.length_set, u8s_length, fx_length, fixed_length, tabTo_len, tabV_len, zs_len, mk_len]; omega))) perm_all (fun _ _ _ _ h => hK.le h) rfl) ?_
        rintro _ _ _ ⟨v16, rfl, rfl, rfl, rfl⟩
        refine gl_y rfl (y_move rfl) ?_
        refine gl_y rfl (y_extract rfl rfl) ?_
        refine gl_y rfl (y_extract rfl rfl) ?_
        refine gl_y rfl (y_assign rfl) ?_
        refine gl_y rfl (y_assign rfl) ?_
        refine gl_nil ?_
        refine gq_then' ?_
        refine gc_seq ?_
        refine gc_seq ?_
        refine gc_region ?_
        refine gl_y rfl (y_move rfl) ?_
        refine gl_y rfl (y_neq rfl rfl) ?_
        refine gl_nil ?_
        refine gq_then' ?_
        refine gc_f rfl rfl ?_
        refine gc_skip ?_
        refine gq_then' ?_
        refine gc_region ?_
        refine gl_y rfl (y_move rfl) ?_
        refine gl_y rfl (y_move rfl) ?_
        have hsl := hsl (by omega)
        refine gl_y rfl (y_sadd rfl rfl (by first | omega | (simp only [List.length_append, List.length_cons, List.length_nil, List.length_take, List.length_drop, List.length_map, List.length_replicate, List.length_set, u8s_length, fx_length, fixed_length, tabTo_len, tabV_len, zs_len, mk_len]; omega))) ?_
        refine gl_y rfl (y_assign rfl) ?_
        refine gl_nil ?_
        refine gq_in_normal ?_
        refine gq_then' ?_
        refine gc_region ?_
        refine gl_y rfl (y_move rfl) ?_
        first | refine gl_y rfl (y_add rfl rfl (wr_i64 (by omega) (by omega))) ?_ | refine gl_y rfl (y_add rfl rfl rfl) ?_
        refine gl_y rfl (y_assign rfl) ?_
        refine gl_nil ?_
        refine gq_roundW (i + 1) ?_ ?_ perm_all rfl (by repeat (first | exact Ext.refl | refine Ext.cons rfl ?_)) ?_
        · omega
        · (show n - (i + 1) < n - i); omega
        · exact ⟨rfl, congrArg (fun l => some (Value.string (bs l))) (sec_take F i), trivial⟩
    · have g10 := h10
      try (replace g10 := of_decide_eq_false g10)
      first
      | exact absurd h10 (by decide)
      | (exfalso; omega)
      | skip
        refine gc_exit ?_
        refine gq_pass_exit ?_
        refine gq_pass_exit ?_
        refine gq_in_exit ?_
        refine gq_then' ?_
        refine gc_seq ?_
        refine gc_region ?_
        refine gl_y rfl (y_move rfl) ?_
        refine gl_y rfl (y_assign rfl) ?_
        refine gl_nil ?_
        refine gq_then' ?_
        refine gc_ret ?_
        obtain rfl : i = n := by omega
        refine gq_r1 rfl rfl perm_all ?_
        show Value.string (bs (F.take (64 * i))) = strV F
        rw [List.take_of_length_le (by omega)]
theorem law_awake08  : CtrP Try.prog 41 [] (fun v => v = .bool true) := by
  refine CtrP.of fun I => ?_
  refine ctr_of Try.func41 rfl (n := 27) rfl rfl ?_
  intro G R
  simp only [argL]
  refine gc_seq ?_
  refine gc_region ?_
  refine gl_y rfl (y_assign rfl) ?_
  refine gl_nil ?_
  refine gq_then' ?_
  refine gc_seq ?_
  refine gc_region ?_
  refine gl_ef (ef_callp en_31 rfl (crc_Make) rfl) ?_
  rintro _ _ _ ⟨v5, rfl, rfl, rfl, rfl⟩
  refine gl_ef (ef_callm en_43 rfl (disk_New 3 (by decide)) perm_all rfl) ?_
  rintro _ _ _ ⟨v6, Mc6, ⟨d6, rfl, rfl⟩, rfl, rfl, rfl⟩
  refine gl_ef (ef_callm en_44 rfl (log_Open _ _ _ 3 (zs_len _) (by decide) (by decide)) perm_same rfl) ?_
  rintro _ _ _ ⟨v7, Mc7, ⟨l7, A7, rfl, rfl⟩, rfl, rfl, rfl⟩
  rw [(stands_zs _).1, (stands_zs _).2]
  refine gl_y rfl (y_move rfl) ?_
  refine gl_y rfl (y_extract rfl rfl) ?_
  refine gl_y rfl (y_extract rfl rfl) ?_
  refine gl_y rfl (y_extract rfl rfl) ?_
  refine gl_y rfl (y_assign rfl) ?_
  refine gl_y rfl (y_assign rfl) ?_
  refine gl_y rfl (y_assign rfl) ?_
  refine gl_nil ?_
  refine gq_then' ?_
  refine gc_seq ?_
  refine gc_region ?_
  refine gl_y rfl (y_move rfl) ?_
  refine gl_y rfl (y_eql rfl rfl) ?_
  refine gl_y rfl (y_move rfl) ?_
  refine gl_want rfl rfl rfl rfl ?_
  refine gl_y rfl (y_move rfl) ?_
  refine gl_want rfl rfl rfl rfl ?_
  refine gl_y rfl (y_pneqnil_t Try.underlying80 rfl) ?_
  refine gl_y rfl (y_pick_t rfl rfl rfl) ?_
  refine gl_y rfl (y_move rfl) ?_
  refine gl_want rfl rfl rfl rfl ?_
  refine gl_y rfl (y_move rfl) ?_
  refine gl_want rfl rfl rfl rfl ?_
  refine gl_ef (ef_callm en_46 rfl (log_Append _ _ ((zs (64 * 3)).take 0 ++ zs (64 * 3 - 0)) _ 3 0 [97, 98] (by simp [zs_len]) (by decide) (by decide) (by decide) (by decide)) (perm_two (i := 0) (j := 0) rfl rfl) rfl) ?_
  rintro _ _ _ ⟨v19, Mc19, ⟨rfl, rfl⟩, rfl, rfl, rfl⟩
  have hA := app_good (n := 3) (e := 0) (F := (zs (64 * 3)).take 0 ++ zs (64 * 3 - 0)) (r := [97, 98]) (by decide) (by decide)
  rw [hA.1, hA.2.1]
  refine gl_want rfl rfl rfl rfl ?_
  refine gl_y rfl (y_eql rfl rfl) ?_
  refine gl_y rfl (y_pick_t rfl rfl rfl) ?_
  refine gl_y rfl (y_move rfl) ?_
  refine gl_want rfl rfl rfl rfl ?_
  refine gl_y rfl (y_move rfl) ?_
  refine gl_want rfl rfl rfl rfl ?_
  refine gl_ef (ef_callm en_45 rfl (log_End _ _ _) (perm_one (i := 0) rfl) rfl) ?_
  rintro _ _ _ ⟨v24, Mc24, ⟨rfl, rfl⟩, rfl, rfl, rfl⟩
  refine gl_want rfl rfl rfl rfl ?_
  refine gl_y rfl (y_eql rfl rfl) ?_
  refine gl_y rfl (y_pick_t rfl rfl rfl) ?_
  refine gl_y rfl (y_assign rfl) ?_
  refine gl_nil ?_
  refine gq_then' ?_
  refine gc_ret ?_
  refine gq_r1 rfl rfl perm_all ?_
  exact rfl
theorem law_LogWrites (s : Nat) (va : Value) (l : List By) (hs : s < 256) (hlen : l.length ≤ 9223372036854775807) : CtrQ Try.prog 7 [.int .u8 (s : Int), va] (fun I => KS I va l) (fun v => v = .bool true) := by
  refine CtrQ.of fun I hK => ?_
  have hK1 := hK
  obtain ⟨A, c, rfl, hR⟩ := hK1
  refine ctr_of Try.func7 rfl (n := 145) rfl rfl ?_
  intro G R
  simp only [argL]
  refine gc_seq ?_
  refine gc_region ?_
  refine gl_y rfl (y_assign rfl) ?_
  refine gl_nil ?_
  refine gq_then' ?_
  refine gc_seq ?_
  refine gc_seq ?_
  refine gc_region ?_
  refine gl_ef (ef_callp en_41 rfl (law_awake08) rfl) ?_
  rintro _ _ _ ⟨v19, rfl, rfl, rfl, rfl⟩
  refine gl_y rfl (y_not rfl) ?_
  refine gl_y rfl (y_move rfl) ?_
  refine gl_want rfl rfl rfl rfl ?_
  refine gl_y rfl (y_move rfl) ?_
  refine gl_want rfl rfl rfl rfl ?_
  refine gl_ef (ef_callq en_42 rfl (ref_Few08 _ l 20 200 (by decide) (by decide)) perm_all (fun _ _ _ _ h => hK.le h) rfl) ?_
  rintro _ _ _ ⟨v23, ⟨b23, rfl, hb23⟩, rfl, rfl, rfl⟩
  refine gl_want rfl rfl rfl rfl ?_
  refine gl_y rfl (y_not rfl) ?_
  refine gl_y rfl (y_pick_f rfl rfl rfl) ?_
  refine gl_nil ?_
  refine gq_then' ?_
  refine gc_if rfl (fun h25 => ?_) (fun h25 => ?_)
  · have g25 := h25
    try (replace g25 := of_decide_eq_true g25)
    first
    | exact absurd h25 (by decide)
    | (exfalso; omega)
    | skip
      refine gc_seq ?_
      refine gc_region ?_
      refine gl_ef (ef_callp en_41 rfl (law_awake08) rfl) ?_
      rintro _ _ _ ⟨v26, rfl, rfl, rfl, rfl⟩
      refine gl_y rfl (y_assign rfl) ?_
      refine gl_nil ?_
      refine gq_then' ?_
      refine gc_ret ?_
      refine gq_pass_ret ?_
      refine gq_r1 rfl rfl perm_all ?_
      exact rfl
  · have g25 := h25
    try (replace g25 := of_decide_eq_false g25)
    obtain ⟨hl20, hl200⟩ := hb23 (by simpa using h25)
    first
    | exact absurd h25 (by decide)
    | (exfalso; omega)
    | skip
      refine gc_skip ?_
      refine gq_then' ?_
      refine gc_seq ?_
      refine gc_region ?_
      refine gl_y rfl (y_move rfl) ?_
      refine gl_y rfl (y_rem rfl rfl (by omega) (rem41 s)) ?_
      have hn40 : s % 41 ≤ 40 := by omega
      generalize s % 41 = n at hn40
      first | refine gl_y rfl (y_conv Try.underlying5 Try.underlying3 rfl (wr_i64 (by omega) (by omega))) ?_ | refine gl_y rfl (y_conv Try.underlying5 Try.underlying3 rfl rfl) ?_
      refine gl_y rfl (y_assign rfl) ?_
      refine gl_nil ?_
      refine gq_then' ?_
      refine gc_seq ?_
      refine gc_region ?_
      refine gl_y rfl (y_move rfl) ?_
      refine gl_ef (ef_callm en_43 rfl (disk_New n (by first | omega | (simp only [List.length_append, List.length_cons, List.length_nil, List.length_take, List.length_drop, List.length_map, List.length_replicate, List.length_set, u8s_length, fx_length, fixed_length, tabTo_len, tabV_len, zs_len, mk_len]; omega))) perm_all rfl) ?_
      rintro _ _ _ ⟨v31, Mc31, ⟨d31, rfl, rfl⟩, rfl, rfl, rfl⟩
      refine gl_y rfl (y_assign rfl) ?_
      refine gl_nil ?_
      refine gq_then' ?_
      refine gc_seq ?_
      refine gc_region ?_
      refine gl_ef (ef_callp en_31 rfl (crc_Make) rfl) ?_
      rintro _ _ _ ⟨v32, rfl, rfl, rfl, rfl⟩
      refine gl_ef (ef_alloc zr_63 (l := _) rfl rfl) ?_
      rintro _ _ _ ⟨b7, rfl, rfl, rfl⟩
      refine gl_ef (ef_storeA sz_63 rfl (vs := tabV) rfl tabV_len tabV_one (i := 1) rfl (by rw [tabV_len, List.length_replicate]; rfl)) ?_
      rintro _ _ _ ⟨rfl, rfl, rfl⟩
      rw [setAt_tab _ (List.length_replicate ..)]
      refine gl_nil ?_
      refine gq_then' ?_
      refine gc_seq ?_
      refine gc_region ?_
      refine gl_y rfl (y_loadA ag_63 sz_63 rfl (blk_own (i := 1) rfl) (vs := tabV) tabV_len (at_all tabV)) ?_
      refine gl_y rfl (y_move rfl) ?_
      refine gl_ef (ef_callm en_44 rfl (log_Open _ _ _ n (zs_len _) (by first | omega | (simp only [List.length_append, List.length_cons, List.length_nil, List.length_take, List.length_drop, List.length_map, List.length_replicate, List.length_set, u8s_length, fx_length, fixed_length, tabTo_len, tabV_len, zs_len, mk_len]; omega)) (by first | omega | (simp only [List.length_append, List.length_cons, List.length_nil, List.length_take, List.length_drop, List.length_map, List.length_replicate, List.length_set, u8s_length, fx_length, fixed_length, tabTo_len, tabV_len, zs_len, mk_len]; omega))) (perm_one (i := 0) rfl) rfl) ?_
      rintro _ _ _ ⟨v36, Mc36, ⟨l36, A36, rfl, rfl⟩, rfl, rfl, rfl⟩
      rw [(stands_zs _).1, (stands_zs _).2]
      refine gl_says 2 rfl osl_slice ?_
      rintro ⟨A1, c1, rfl⟩
      refine gl_y rfl (y_move rfl) ?_
      refine gl_y rfl (y_extract rfl rfl) ?_
      refine gl_y rfl (y_extract rfl rfl) ?_
      refine gl_y rfl (y_extract rfl rfl) ?_
      refine gl_y rfl (y_assign rfl) ?_
      refine gl_y rfl (y_assign rfl) ?_
      refine gl_y rfl (y_assign rfl) ?_
      refine gl_nil ?_
      refine gq_then' ?_
      refine gc_seq ?_
      refine gc_seq ?_
      refine gc_region ?_
      refine gl_y rfl (y_move rfl) ?_
      refine gl_y rfl (y_neq rfl rfl) ?_
      refine gl_y rfl (y_move rfl) ?_
      refine gl_want rfl rfl rfl rfl ?_
      refine gl_y rfl (y_move rfl) ?_
      refine gl_want rfl rfl rfl rfl ?_
      refine gl_y rfl (y_len Try.underlying76 rfl) ?_
      refine gl_want rfl rfl rfl rfl ?_
      refine gl_y rfl (y_neq rfl rfl) ?_
      refine gl_y rfl (y_pick_f rfl rfl rfl) ?_
      refine gl_y rfl (y_move rfl) ?_
      refine gl_want rfl rfl rfl rfl ?_
      refine gl_y rfl (y_move rfl) ?_
      refine gl_want rfl rfl rfl rfl ?_
      refine gl_ef (ef_callm en_45 rfl (log_End _ _ _) (perm_one (i := 0) rfl) rfl) ?_
      rintro _ _ _ ⟨v49, Mc49, ⟨rfl, rfl⟩, rfl, rfl, rfl⟩
      refine gl_want rfl rfl rfl rfl ?_
      refine gl_y rfl (y_neq rfl rfl) ?_
      refine gl_y rfl (y_pick_f rfl rfl rfl) ?_
      refine gl_nil ?_
      refine gq_then' ?_
      refine gc_f rfl rfl ?_
      refine gc_skip ?_
      refine gq_then' ?_
      refine gc_seq ?_
      refine gc_region ?_
      refine gl_y rfl (y_assign rfl) ?_
      refine gl_nil ?_
      refine gq_then' ?_
      refine gc_seq ?_
      refine gc_region ?_
      refine gl_y rfl (y_assign rfl) ?_
      refine gl_nilslice 9 1 ?_
      refine gl_nil ?_
      refine gq_then' ?_
      refine gc_seq ?_
      refine gc_seq ?_
      refine gc_region ?_
      refine gl_y rfl (y_assign rfl) ?_
      refine gl_nil ?_
      refine gq_then' ?_
      refine gc_block ?_
      refine gc_loopW (α := Nat × List By × Value) [52, 53, 54, 55, 58, 59, 60, 61, 62, 63, 14, 64, 65, 66, 67, 68, 15, 82, 83, 84, 85, 86, 81, 87, 88, 4, 90, 91, 92, 93, 94, 95, 96, 97, 89, 98, 99, 69, 70, 71, 11, 72, 73, 74, 75, 76, 77, 78, 12, 79, 80, 100, 101, 102, 103, 104, 56, 57, 13] (fun (⟨i, W, v⟩ : Nat × List By × Value) => [(13, .int .i64 (i : Int)), (11, .string (bs (joinR W))), (12, v)]) (fun (⟨i, W, v⟩ : Nat × List By × Value) => [logE l36 d31 ((joinR W).length : Nat), dsk d31 (joinR W ++ zs (64 * n - (joinR W).length)) (i * 40), osl 9 1 v W.length (W.map strV), cl b7 63 tabV]) (fun (⟨i, W, v⟩ : Nat × List By × Value) => i ≤ l.length ∧ W.length ≤ i ∧ (joinR W).length ≤ 64 * n ∧ ∀ r ∈ W, r ≠ [] ∧ r.length ≤ 4000) (fun (⟨i, W, v⟩ : Nat × List By × Value) => l.length - i) (0, [], .slice none 0 0) ?_ ((get_perm (i := 0) rfl).trans (((get_perm (i := 0) rfl).trans (((get_perm (i := 2) rfl).trans (((get_perm (i := 1) rfl).trans ((List.Perm.refl _).cons _)).cons _)).cons _)).cons _)) ?_ ?_
      · exact ⟨Nat.zero_le _, Nat.le_refl _, Nat.zero_le _, fun r h => by cases h⟩
      · exact ⟨rfl, rfl, rfl, trivial⟩
      · rintro ⟨i, W, v⟩ ⟨hi, hWi, hW2, hW3⟩
        replace hi : i ≤ l.length := hi
        replace hWi : W.length ≤ i := hWi
        replace hW2 : (joinR W).length ≤ 64 * n := hW2
        replace hW3 : ∀ r ∈ W, r ≠ [] ∧ r.length ≤ 4000 := hW3
        refine gc_seq ?_
        refine gc_seq ?_
        refine gc_region ?_
        refine gl_y rfl (y_move rfl) ?_
        refine gl_y rfl (y_move rfl) ?_
        refine gl_y rfl (y_len Try.underlying76 rfl) ?_
        refine gl_y rfl (y_lss rfl rfl) ?_
        refine gl_nil ?_
        refine gq_then' ?_
        refine gc_if rfl (fun h55 => ?_) (fun h55 => ?_)
        · have g55 := h55
          try (replace g55 := of_decide_eq_true g55)
          first
          | exact absurd h55 (by decide)
          | (exfalso; omega)
          | skip
            refine gc_skip ?_
            refine gq_then' ?_
            refine gc_seq ?_
            refine gc_block ?_
            refine gc_seq ?_
            refine gc_region ?_
            refine gl_y rfl (y_move rfl) ?_
            refine gl_y rfl (y_move rfl) ?_
            refine gl_y rfl (y_move rfl) ?_
            obtain ⟨x, hx⟩ : ∃ x, l[i]? = some x := ⟨_, List.getElem?_eq_getElem (by omega)⟩
            have hxm := List.mem_of_getElem? hx
            obtain ⟨b, o, t, fz3, cs, hA, hI, hc⟩ := hR.pos (by omega)
            have hx200 := hl200 x hxm
            have hmx := mk_len x
            refine gl_y rfl (y_iaddrA Try.underlying76 sz_9 rfl hA rfl (by omega) (by omega)) ?_
            refine gl_y rfl (y_load ag_9 rfl (blk_known hI) (str_get hc hx)) ?_
            refine gl_ef (ef_callm en_46 rfl (log_Append _ _ (joinR W ++ zs (64 * n - (joinR W).length)) (i * 40) n (joinR W).length x (by simp [zs_len]; omega) (by first | omega | (simp only [List.length_append, List.length_cons, List.length_nil, List.length_take, List.length_drop, List.length_map, List.length_replicate, List.length_set, u8s_length, fx_length, fixed_length, tabTo_len, tabV_len, zs_len, mk_len]; omega)) hW2 (by first | omega | (simp only [List.length_append, List.length_cons, List.length_nil, List.length_take, List.length_drop, List.length_map, List.length_replicate, List.length_set, u8s_length, fx_length, fixed_length, tabTo_len, tabV_len, zs_len, mk_len]; omega)) (by omega)) (perm_two (i := 0) (j := 0) rfl rfl) rfl) ?_
            rintro _ _ _ ⟨v63, Mc63, ⟨rfl, rfl⟩, rfl, rfl, rfl⟩
            refine gl_y rfl (y_assign rfl) ?_
            refine gl_nil ?_
            refine gq_then' ?_
            refine gc_seq ?_
            refine gc_region ?_
            refine gl_y rfl (y_move rfl) ?_
            refine gl_y rfl (y_move rfl) ?_
            refine gl_y rfl (y_iaddrA Try.underlying76 sz_9 rfl hA rfl (by omega) (by omega)) ?_
            refine gl_y rfl (y_load ag_9 rfl (blk_known hI) (str_get hc hx)) ?_
            refine gl_ef (ef_callp en_47 rfl (ref_Made x (by omega)) rfl) ?_
            rintro _ _ _ ⟨v68, rfl, rfl, rfl, rfl⟩
            refine gl_y rfl (y_assign rfl) ?_
            refine gl_nil ?_
            refine gq_then' ?_
            refine gc_seq ?_
            refine gc_block ?_
            refine gc_seq ?_
            refine gc_region ?_
            refine gl_y rfl (y_move rfl) ?_
            refine gl_y rfl (y_move rfl) ?_
            refine gl_y rfl (y_iaddrA Try.underlying76 sz_9 rfl hA rfl (by omega) (by omega)) ?_
            refine gl_y rfl (y_load ag_9 rfl (blk_known hI) (str_get hc hx)) ?_
            refine gl_y rfl (y_seql rfl rfl) ?_
            refine gl_y rfl (y_assign rfl) ?_
            refine gl_nil ?_
            refine gq_then' ?_
            refine gc_if rfl (fun h81 => ?_) (fun h81 => ?_)
            · have g81 := h81
              try (replace g81 := of_decide_eq_true g81)
              first
              | exact absurd h81 (by decide)
              | (exfalso; omega)
              | skip
                refine gc_seq ?_
                have hAp := app_long (n := n) (e := (joinR W).length) (F := (joinR W ++ zs (64 * n - (joinR W).length))) (r := x) (Or.inl (by rw [show x = [] from g81]; decide))
                rw [hAp.1, hAp.2.1, hAp.2.2]
                refine gc_region ?_
                refine gl_y rfl (y_move rfl) ?_
                refine gl_y rfl (y_neq rfl rfl) ?_
                refine gl_nil ?_
                refine gq_then' ?_
                refine gc_f rfl rfl ?_
                refine gc_skip ?_
                refine gq_in_normal ?_
                refine gq_then' ?_
                refine gc_seq ?_
                refine gc_region ?_
                refine gl_y rfl (y_move rfl) ?_
                refine gl_ef (ef_callm en_45 rfl (log_End _ _ _) (perm_one (i := 0) rfl) rfl) ?_
                rintro _ _ _ ⟨v101, Mc101, ⟨rfl, rfl⟩, rfl, rfl, rfl⟩
                refine gl_y rfl (y_move rfl) ?_
                refine gl_y rfl (y_slen Try.underlying9 rfl) ?_
                refine gl_y rfl (y_neq rfl rfl) ?_
                refine gl_nil ?_
                refine gq_then' ?_
                refine gc_f rfl (decide_eq_false (fun h => h (by first | omega | (simp only [List.length_append, mk_len] <;> omega)))) ?_
                refine gc_skip ?_
                refine gq_in_normal ?_
                refine gq_then' ?_
                refine gc_region ?_
                refine gl_y rfl (y_move rfl) ?_
                first | refine gl_y rfl (y_add rfl rfl (wr_i64 (by omega) (by omega))) ?_ | refine gl_y rfl (y_add rfl rfl rfl) ?_
                refine gl_y rfl (y_assign rfl) ?_
                refine gl_nil ?_
                refine gq_weak 1 rfl (dsk_weak (F' := (joinR W ++ zs (64 * n - (joinR W).length))) (k' := (i + 1) * 40) rfl (by omega)) ?_
                refine gq_roundW (x := (⟨i, W, v⟩ : Nat × List By × Value)) (i + 1, W, v) ?_ ?_ perm_same rfl (by repeat (first | exact Ext.refl | refine Ext.cons rfl ?_)) ?_
                · exact ⟨by (show i + 1 ≤ l.length); omega, by (show W.length ≤ i + 1); omega, hW2, hW3⟩
                · (show l.length - (i + 1) < l.length - i); omega
                · exact ⟨rfl, rfl, rfl, trivial⟩
            · have g81 := h81
              try (replace g81 := of_decide_eq_false g81)
              first
              | exact absurd h81 (by decide)
              | (exfalso; omega)
              | skip
                refine gc_seq ?_
                have hx0 := List.length_pos_iff.2 (show x ≠ [] from g81)
                refine gc_region ?_
                refine gl_y rfl (y_move rfl) ?_
                refine gl_y rfl (y_slen Try.underlying9 rfl) ?_
                refine gl_y rfl (y_move rfl) ?_
                refine gl_y rfl (y_slen Try.underlying9 rfl) ?_
                first | refine gl_y rfl (y_add rfl rfl (wr_i64 (by omega) (by omega))) ?_ | refine gl_y rfl (y_add rfl rfl rfl) ?_
                refine gl_y rfl (y_move rfl) ?_
                first | refine gl_y rfl (y_mul rfl rfl (wr_i64 (by omega) (by omega))) ?_ | refine gl_y rfl (y_mul rfl rfl rfl) ?_
                refine gl_y rfl (y_gtr rfl rfl) ?_
                refine gl_y rfl (y_assign rfl) ?_
                refine gl_nil ?_
                refine gq_then' ?_
                refine gc_if rfl (fun h89 => ?_) (fun h89 => ?_)
                · have g89 := h89
                  try (replace g89 := of_decide_eq_true g89)
                  first
                  | exact absurd h89 (by decide)
                  | (exfalso; omega)
                  | skip
                    refine gc_seq ?_
                    have hAp := app_full (n := n) (e := (joinR W).length) (F := (joinR W ++ zs (64 * n - (joinR W).length))) (r := x) (by omega) (by omega)
                    rw [hAp.1, hAp.2.1, hAp.2.2]
                    refine gc_region ?_
                    refine gl_y rfl (y_move rfl) ?_
                    refine gl_y rfl (y_neq rfl rfl) ?_
                    refine gl_nil ?_
                    refine gq_then' ?_
                    refine gc_f rfl rfl ?_
                    refine gc_skip ?_
                    refine gq_in_normal ?_
                    refine gq_then' ?_
                    refine gc_seq ?_
                    refine gc_region ?_
                    refine gl_y rfl (y_move rfl) ?_
                    refine gl_ef (ef_callm en_45 rfl (log_End _ _ _) (perm_one (i := 0) rfl) rfl) ?_
                    rintro _ _ _ ⟨v101, Mc101, ⟨rfl, rfl⟩, rfl, rfl, rfl⟩
                    refine gl_y rfl (y_move rfl) ?_
                    refine gl_y rfl (y_slen Try.underlying9 rfl) ?_
                    refine gl_y rfl (y_neq rfl rfl) ?_
                    refine gl_nil ?_
                    refine gq_then' ?_
                    refine gc_f rfl (decide_eq_false (fun h => h (by first | omega | (simp only [List.length_append, mk_len] <;> omega)))) ?_
                    refine gc_skip ?_
                    refine gq_in_normal ?_
                    refine gq_then' ?_
                    refine gc_region ?_
                    refine gl_y rfl (y_move rfl) ?_
                    first | refine gl_y rfl (y_add rfl rfl (wr_i64 (by omega) (by omega))) ?_ | refine gl_y rfl (y_add rfl rfl rfl) ?_
                    refine gl_y rfl (y_assign rfl) ?_
                    refine gl_nil ?_
                    refine gq_weak 1 rfl (dsk_weak (F' := (joinR W ++ zs (64 * n - (joinR W).length))) (k' := (i + 1) * 40) rfl (by omega)) ?_
                    refine gq_roundW (x := (⟨i, W, v⟩ : Nat × List By × Value)) (i + 1, W, v) ?_ ?_ perm_same rfl (by repeat (first | exact Ext.refl | refine Ext.cons rfl ?_)) ?_
                    · exact ⟨by (show i + 1 ≤ l.length); omega, by (show W.length ≤ i + 1); omega, hW2, hW3⟩
                    · (show l.length - (i + 1) < l.length - i); omega
                    · exact ⟨rfl, rfl, rfl, trivial⟩
                · have g89 := h89
                  try (replace g89 := of_decide_eq_false g89)
                  first
                  | exact absurd h89 (by decide)
                  | (exfalso; omega)
                  | skip
                    refine gc_seq ?_
                    have hAp := app_good (n := n) (e := (joinR W).length) (F := (joinR W ++ zs (64 * n - (joinR W).length))) (r := x) (by omega) (by omega)
                    rw [hAp.1, hAp.2.1, hAp.2.2]
                    refine gc_region ?_
                    refine gl_y rfl (y_move rfl) ?_
                    refine gl_y rfl (y_move rfl) ?_
                    refine gl_y rfl (y_sadd rfl rfl (by first | omega | (simp only [List.length_append, List.length_cons, List.length_nil, List.length_take, List.length_drop, List.length_map, List.length_replicate, List.length_set, u8s_length, fx_length, fixed_length, tabTo_len, tabV_len, zs_len, mk_len]; omega))) ?_
                    refine gl_y rfl (y_assign rfl) ?_
                    refine gl_nil ?_
                    refine gq_then' ?_
                    refine gc_seq ?_
                    refine gc_region ?_
                    refine gl_y rfl (y_move rfl) ?_
                    refine gl_y rfl (y_move rfl) ?_
                    refine gl_y rfl (y_move rfl) ?_
                    refine gl_y rfl (y_iaddrA Try.underlying76 sz_9 rfl hA rfl (by omega) (by omega)) ?_
                    refine gl_y rfl (y_load ag_9 rfl (blk_known hI) (str_get hc hx)) ?_
                    refine gl_ef (ef_buildSlice Try.underlying76 sz_9 zr_9 rfl rfl rfl (cs := [_]) (zl := [_]) rfl rfl rfl rfl) ?_
                    rintro _ _ _ ⟨b77, rfl, rfl, rfl⟩
                    refine gl_ef (ef_append Try.underlying76 tf_9 rfl (i := 2) rfl rfl (src_all (blk_own (i := 4) rfl)) rfl rfl (by first | omega | (simp only [List.length_append, List.length_cons, List.length_nil, List.length_take, List.length_drop, List.length_map, List.length_replicate, List.length_set, u8s_length, fx_length, fixed_length, tabTo_len, tabV_len, zs_len, mk_len]; omega)) (by first | omega | (simp only [List.length_append, List.length_cons, List.length_nil, List.length_take, List.length_drop, List.length_map, List.length_replicate, List.length_set, u8s_length, fx_length, fixed_length, tabTo_len, tabV_len, zs_len, mk_len]; omega)) rfl) ?_
                    rintro _ _ _ ⟨v78, rfl, rfl, rfl⟩
                    refine gl_y rfl (y_assign rfl) ?_
                    refine gl_nilslice 9 1 ?_
                    refine gl_nil ?_
                    refine gq_then' ?_
                    refine gc_seq ?_
                    refine gc_region ?_
                    refine gl_y rfl (y_move rfl) ?_
                    refine gl_y rfl (y_neq rfl rfl) ?_
                    refine gl_nil ?_
                    refine gq_then' ?_
                    refine gc_f rfl rfl ?_
                    refine gc_skip ?_
                    refine gq_in_normal ?_
                    refine gq_then' ?_
                    refine gc_seq ?_
                    refine gc_region ?_
                    refine gl_y rfl (y_move rfl) ?_
                    refine gl_ef (ef_callm en_45 rfl (log_End _ _ _) (perm_one (i := 0) rfl) rfl) ?_
                    rintro _ _ _ ⟨v101, Mc101, ⟨rfl, rfl⟩, rfl, rfl, rfl⟩
                    refine gl_y rfl (y_move rfl) ?_
                    refine gl_y rfl (y_slen Try.underlying9 rfl) ?_
                    refine gl_y rfl (y_neq rfl rfl) ?_
                    refine gl_nil ?_
                    refine gq_then' ?_
                    refine gc_f rfl (decide_eq_false (fun h => h (by first | omega | (simp only [List.length_append, mk_len] <;> omega)))) ?_
                    refine gc_skip ?_
                    refine gq_in_normal ?_
                    refine gq_then' ?_
                    refine gc_region ?_
                    refine gl_y rfl (y_move rfl) ?_
                    first | refine gl_y rfl (y_add rfl rfl (wr_i64 (by omega) (by omega))) ?_ | refine gl_y rfl (y_add rfl rfl rfl) ?_
                    refine gl_y rfl (y_assign rfl) ?_
                    refine gl_nil ?_
                    refine gq_M (congrArg (fun z => logE l36 d31 z :: _) (show (((joinR W).length + (6 + x.length) : Nat) : Int) = (((joinR (W ++ [x])).length : Nat) : Int) by rw [joinR_snoc, List.length_append, mk_len])) ?_
                    refine gq_M (congrArg (fun e => _ :: _ :: e :: _) (osl_snocS _ v78 W x)) ?_
                    refine gq_weak 1 rfl (dsk_weak (F' := joinR (W ++ [x]) ++ zs (64 * n - (joinR (W ++ [x])).length)) (k' := (i + 1) * 40) (by rw [ovl_end (by rw [mk_len]; omega), joinR_snoc, List.length_append, Nat.sub_sub]) (by omega)) ?_
                    refine gq_roundW (x := (⟨i, W, v⟩ : Nat × List By × Value)) (i + 1, W ++ [x], v78) ?_ ?_ ((get_perm (i := 0) rfl).trans (((get_perm (i := 0) rfl).trans (((get_perm (i := 0) rfl).trans (((get_perm (i := 0) rfl).trans ((List.Perm.refl _).cons _)).cons _)).cons _)).cons _)) rfl (by repeat (first | exact Ext.refl | refine Ext.cons rfl ?_)) ?_
                    · exact ⟨by (show i + 1 ≤ l.length); omega, by (show (W ++ [x]).length ≤ i + 1); rw [List.length_append]; exact Nat.succ_le_succ hWi, by (show (joinR (W ++ [x])).length ≤ 64 * n); rw [joinR_snoc, List.length_append, mk_len]; omega, fun r hr => by
                          rcases List.mem_append.1 hr with h | h
                          · exact hW3 r h
                          · simp at h; subst h; exact ⟨g81, by have := hl200 r hxm; omega⟩⟩
                    · (show l.length - (i + 1) < l.length - i); omega
                    · exact ⟨rfl, congrArg (fun l => some (Value.string (bs l))) (joinR_snoc W x).symm, rfl, trivial⟩
        · have g55 := h55
          try (replace g55 := of_decide_eq_false g55)
          first
          | exact absurd h55 (by decide)
          | (exfalso; omega)
          | skip
            refine gc_exit ?_
            refine gq_pass_exit ?_
            refine gq_pass_exit ?_
            refine gq_in_exit ?_
            refine gq_then' ?_
            refine gc_seq ?_
            refine gc_region ?_
            refine gl_y rfl (y_loadA ag_63 sz_63 rfl (blk_own (i := 3) rfl) (vs := tabV) tabV_len (at_all tabV)) ?_
            refine gl_y rfl (y_move rfl) ?_
            refine gl_ef (ef_callm en_44 rfl (log_Open _ (joinR W ++ zs (64 * n - (joinR W).length)) (i * 40) n (by simp [zs_len]; omega) (by first | omega | (simp only [List.length_append, List.length_cons, List.length_nil, List.length_take, List.length_drop, List.length_map, List.length_replicate, List.length_set, u8s_length, fx_length, fixed_length, tabTo_len, tabV_len, zs_len, mk_len]; omega)) (by first | omega | (simp only [List.length_append, List.length_cons, List.length_nil, List.length_take, List.length_drop, List.length_map, List.length_replicate, List.length_set, u8s_length, fx_length, fixed_length, tabTo_len, tabV_len, zs_len, mk_len]; omega))) (perm_one (i := 1) rfl) rfl) ?_
            rintro _ _ _ ⟨v108, Mc108, ⟨l108, A108, rfl, rfl⟩, rfl, rfl, rfl⟩
            rw [(stands_join W _ hW3).1, (stands_join W _ hW3).2, List.take_left]
            refine gl_y rfl (y_move rfl) ?_
            refine gl_y rfl (y_extract rfl rfl) ?_
            refine gl_y rfl (y_extract rfl rfl) ?_
            refine gl_y rfl (y_extract rfl rfl) ?_
            refine gl_y rfl (y_assign rfl) ?_
            refine gl_y rfl (y_assign rfl) ?_
            refine gl_y rfl (y_assign rfl) ?_
            refine gl_nil ?_
            refine gq_then' ?_
            refine gc_seq ?_
            refine gc_region_draw (N := 34) [] rfl follows_mixed (by repeat (first | exact panicOk_body | refine panicOk_then ?_ | refine panicOk_in ?_)) (by kernel_rfl) ?_ ?_
            · trivial
            · skip
              refine ga_y 0 rfl (by kernel_rfl) (by kernel_rfl) rfl (y_move rfl) ?_
              refine ga_y 2 rfl (by kernel_rfl) (by kernel_rfl) rfl (y_move rfl) ?_
              refine ga_y 3 rfl (by kernel_rfl) (by kernel_rfl) rfl (y_move rfl) ?_
              refine ga_y 4 rfl (by kernel_rfl) (by kernel_rfl) rfl (y_mul rfl rfl (mul_i64 n (by omega))) ?_
              refine ga_y 5 rfl (by kernel_rfl) (by kernel_rfl) rfl (y_move rfl) ?_
              refine ga_y 6 rfl (by kernel_rfl) (by kernel_rfl) rfl (y_slen Try.underlying9 rfl) ?_
              refine ga_y 7 rfl (by kernel_rfl) (by kernel_rfl) rfl (y_sub rfl rfl (sub_i64 _ _ (by omega) (by omega))) ?_
              refine ga_all2 (i := 1) (j := 8) (by kernel_rfl) ?_ ?_
              · skip
                refine gb_ef rfl (ef_callq en_48 rfl (law_bytes08 _ (joinR W ++ zs (64 * n - (joinR W).length)) 0 n (by simp [zs_len]; omega) (by first | omega | (simp only [List.length_append, List.length_cons, List.length_nil, List.length_take, List.length_drop, List.length_map, List.length_replicate, List.length_set, u8s_length, fx_length, fixed_length, tabTo_len, tabV_len, zs_len, mk_len]; omega)) (by first | omega | (simp only [List.length_append, List.length_cons, List.length_nil, List.length_take, List.length_drop, List.length_map, List.length_replicate, List.length_set, u8s_length, fx_length, fixed_length, tabTo_len, tabV_len, zs_len, mk_len]; omega))) (perm_one (i := 1) rfl) (fun hl I1 h1 h2 _ => dk_lend h1 h2) rfl) ?_
                rintro _ _ _ ⟨v113, rfl, rfl, rfl, rfl⟩
                refine ⟨sat_S (bl := []) trivial, ?_⟩
                refine ga_all1 (i := 8) (by kernel_rfl) ?_
                · skip
                  refine gb_ef rfl (ef_make Try.underlying36 tf_5 (m := (64 * n - (joinR W).length)) rfl rfl (by omega) (by omega) rfl) ?_
                  rintro _ _ _ ⟨b120, rfl, rfl, rfl⟩
                  refine ⟨sat_S (bl := []) trivial, ?_⟩
                  refine ga_all1 (i := 9) (by kernel_rfl) ?_
                  · skip
                    refine gb_y rfl rfl (y_tostr (bytes := zs (64 * n - (joinR W).length)) Try.underlying36 Try.underlying5 Try.underlying9 rfl (blk_own (i := 6) rfl) (zs_len _) (made_get _)) ?_
                    refine ga_y 10 rfl (by kernel_rfl) (by kernel_rfl) rfl (y_sadd rfl rfl (by first | omega | (simp only [List.length_append, List.length_cons, List.length_nil, List.length_take, List.length_drop, List.length_map, List.length_replicate, List.length_set, u8s_length, fx_length, fixed_length, tabTo_len, tabV_len, zs_len, mk_len]; omega))) ?_
                    refine ga_y 11 rfl (by kernel_rfl) (by kernel_rfl) rfl (y_seql rfl rfl) ?_
                    refine ga_y 12 rfl (by kernel_rfl) (by kernel_rfl) rfl (y_move rfl) ?_
                    refine ga_want 13 rfl rfl rfl rfl (decide_eq_true rfl) (by kernel_rfl) (by kernel_rfl) rfl (y_move rfl) ?_
                    refine ga_want 14 rfl rfl rfl rfl (decide_eq_true rfl) (by kernel_rfl) (by kernel_rfl) rfl (y_eql rfl rfl) ?_
                    refine ga_y 15 rfl (by kernel_rfl) (by kernel_rfl) rfl (y_pick_t rfl (decide_eq_true rfl) rfl) ?_
                    refine ga_y 16 rfl (by kernel_rfl) (by kernel_rfl) rfl (y_move rfl) ?_
                    refine ga_want 17 rfl rfl rfl rfl rfl (by kernel_rfl) (by kernel_rfl) rfl (y_move rfl) ?_
                    refine ga_want 18 rfl rfl rfl rfl rfl (by kernel_rfl) (by kernel_rfl) rfl (y_move rfl) ?_
                    refine ga_all1 (i := 19) (by kernel_rfl) ?_
                    · skip
                      refine gb_ef_want rfl rfl rfl rfl rfl (ef_callq en_49 rfl (ref_Same08 _ _ W (by first | omega | (simp only [List.length_append, List.length_cons, List.length_nil, List.length_take, List.length_drop, List.length_map, List.length_replicate, List.length_set, u8s_length, fx_length, fixed_length, tabTo_len, tabV_len, zs_len, mk_len]; omega))) (perm_two (i := 2) (j := 3) rfl rfl) (fun hl I1 h1 h2 _ => ks_lend2 h1 h2) rfl) ?_
                      rintro _ _ _ ⟨v131, rfl, rfl, rfl, rfl⟩
                      refine ⟨sat_S (bl := []) trivial, ?_⟩
                      refine ga_y 20 rfl (by kernel_rfl) (by kernel_rfl) rfl (y_pick_t rfl rfl rfl) ?_
                      refine ga_y 21 rfl (by kernel_rfl) (by kernel_rfl) rfl (y_move rfl) ?_
                      refine ga_want 22 rfl rfl rfl rfl rfl (by kernel_rfl) (by kernel_rfl) rfl (y_move rfl) ?_
                      refine ga_want 24 rfl rfl rfl rfl rfl (by kernel_rfl) (by kernel_rfl) rfl (y_move rfl) ?_
                      refine ga_want 25 rfl rfl rfl rfl rfl (by kernel_rfl) (by kernel_rfl) rfl (y_slen Try.underlying9 rfl) ?_
                      refine ga_all1 (i := 23) (by kernel_rfl) ?_
                      · skip
                        refine gb_ef_want rfl rfl rfl rfl rfl (ef_callm en_45 rfl (log_End _ _ _) (perm_one (i := 0) rfl) rfl) ?_
                        rintro _ _ _ ⟨v135, Mc135, ⟨rfl, rfl⟩, rfl, rfl, rfl⟩
                        refine ⟨sat_S (bl := []) trivial, ?_⟩
                        refine ga_want 26 rfl rfl rfl rfl rfl (by kernel_rfl) (by kernel_rfl) rfl (y_eql rfl rfl) ?_
                        refine ga_y 27 rfl (by kernel_rfl) (by kernel_rfl) rfl (y_pick_t rfl rfl rfl) ?_
                        refine ga_y 28 rfl (by kernel_rfl) (by kernel_rfl) rfl (y_move rfl) ?_
                        refine ga_want 29 rfl rfl rfl rfl (decide_eq_true rfl) (by kernel_rfl) (by kernel_rfl) rfl (y_move rfl) ?_
                        refine ga_all1 (i := 30) (by kernel_rfl) ?_
                        · skip
                          refine gb_ef_want rfl rfl rfl rfl (decide_eq_true rfl) (ef_callm en_50 rfl (log_Over _ _ _) (perm_one (i := 3) rfl) rfl) ?_
                          rintro _ _ _ ⟨v142, Mc142, ⟨rfl, rfl⟩, rfl, rfl, rfl⟩
                          refine ⟨sat_S (bl := []) trivial, ?_⟩
                          refine ga_want 31 rfl rfl rfl rfl (decide_eq_true rfl) (by kernel_rfl) (by kernel_rfl) rfl (y_not rfl) ?_
                          refine ga_y 32 rfl (by kernel_rfl) (by kernel_rfl) rfl (y_pick_t rfl (decide_eq_true rfl) rfl) ?_
                          refine ga_y 33 rfl (by kernel_rfl) (by kernel_rfl) rfl (y_assign rfl) ?_
                          refine ga_done (by kernel_rfl) ?_
                          refine gq_then' ?_
                          refine gc_ret ?_
                          refine gq_r1 rfl rfl perm_all ?_
                          exact rfl
              · skip
                refine gb_ef rfl (ef_make Try.underlying36 tf_5 (m := (64 * n - (joinR W).length)) rfl rfl (by omega) (by omega) rfl) ?_
                rintro _ _ _ ⟨b120, rfl, rfl, rfl⟩
                refine ⟨sat_S (bl := []) trivial, ?_⟩
                refine ga_all2 (i := 1) (j := 9) (by kernel_rfl) ?_ ?_
                · skip
                  refine gb_ef rfl (ef_callq en_48 rfl (law_bytes08 _ (joinR W ++ zs (64 * n - (joinR W).length)) 0 n (by simp [zs_len]; omega) (by first | omega | (simp only [List.length_append, List.length_cons, List.length_nil, List.length_take, List.length_drop, List.length_map, List.length_replicate, List.length_set, u8s_length, fx_length, fixed_length, tabTo_len, tabV_len, zs_len, mk_len]; omega)) (by first | omega | (simp only [List.length_append, List.length_cons, List.length_nil, List.length_take, List.length_drop, List.length_map, List.length_replicate, List.length_set, u8s_length, fx_length, fixed_length, tabTo_len, tabV_len, zs_len, mk_len]; omega))) (perm_one (i := 1) rfl) (fun hl I1 h1 h2 _ => dk_lend h1 h2) rfl) ?_
                  rintro _ _ _ ⟨v113, rfl, rfl, rfl, rfl⟩
                  refine ⟨sat_S (bl := []) trivial, ?_⟩
                  refine ga_all1 (i := 9) (by kernel_rfl) ?_
                  · skip
                    refine gb_y rfl rfl (y_tostr (bytes := zs (64 * n - (joinR W).length)) Try.underlying36 Try.underlying5 Try.underlying9 rfl (blk_own (i := 6) rfl) (zs_len _) (made_get _)) ?_
                    refine ga_y 10 rfl (by kernel_rfl) (by kernel_rfl) rfl (y_sadd rfl rfl (by first | omega | (simp only [List.length_append, List.length_cons, List.length_nil, List.length_take, List.length_drop, List.length_map, List.length_replicate, List.length_set, u8s_length, fx_length, fixed_length, tabTo_len, tabV_len, zs_len, mk_len]; omega))) ?_
                    refine ga_y 11 rfl (by kernel_rfl) (by kernel_rfl) rfl (y_seql rfl rfl) ?_
                    refine ga_y 12 rfl (by kernel_rfl) (by kernel_rfl) rfl (y_move rfl) ?_
                    refine ga_want 13 rfl rfl rfl rfl (decide_eq_true rfl) (by kernel_rfl) (by kernel_rfl) rfl (y_move rfl) ?_
                    refine ga_want 14 rfl rfl rfl rfl (decide_eq_true rfl) (by kernel_rfl) (by kernel_rfl) rfl (y_eql rfl rfl) ?_
                    refine ga_y 15 rfl (by kernel_rfl) (by kernel_rfl) rfl (y_pick_t rfl (decide_eq_true rfl) rfl) ?_
                    refine ga_y 16 rfl (by kernel_rfl) (by kernel_rfl) rfl (y_move rfl) ?_
                    refine ga_want 17 rfl rfl rfl rfl rfl (by kernel_rfl) (by kernel_rfl) rfl (y_move rfl) ?_
                    refine ga_want 18 rfl rfl rfl rfl rfl (by kernel_rfl) (by kernel_rfl) rfl (y_move rfl) ?_
                    refine ga_all1 (i := 19) (by kernel_rfl) ?_
                    · skip
                      refine gb_ef_want rfl rfl rfl rfl rfl (ef_callq en_49 rfl (ref_Same08 _ _ W (by first | omega | (simp only [List.length_append, List.length_cons, List.length_nil, List.length_take, List.length_drop, List.length_map, List.length_replicate, List.length_set, u8s_length, fx_length, fixed_length, tabTo_len, tabV_len, zs_len, mk_len]; omega))) (perm_two (i := 2) (j := 3) rfl rfl) (fun hl I1 h1 h2 _ => ks_lend2 h1 h2) rfl) ?_
                      rintro _ _ _ ⟨v131, rfl, rfl, rfl, rfl⟩
                      refine ⟨sat_S (bl := []) trivial, ?_⟩
                      refine ga_y 20 rfl (by kernel_rfl) (by kernel_rfl) rfl (y_pick_t rfl rfl rfl) ?_
                      refine ga_y 21 rfl (by kernel_rfl) (by kernel_rfl) rfl (y_move rfl) ?_
                      refine ga_want 22 rfl rfl rfl rfl rfl (by kernel_rfl) (by kernel_rfl) rfl (y_move rfl) ?_
                      refine ga_want 24 rfl rfl rfl rfl rfl (by kernel_rfl) (by kernel_rfl) rfl (y_move rfl) ?_
                      refine ga_want 25 rfl rfl rfl rfl rfl (by kernel_rfl) (by kernel_rfl) rfl (y_slen Try.underlying9 rfl) ?_
                      refine ga_all1 (i := 23) (by kernel_rfl) ?_
                      · skip
                        refine gb_ef_want rfl rfl rfl rfl rfl (ef_callm en_45 rfl (log_End _ _ _) (perm_one (i := 0) rfl) rfl) ?_
                        rintro _ _ _ ⟨v135, Mc135, ⟨rfl, rfl⟩, rfl, rfl, rfl⟩
                        refine ⟨sat_S (bl := []) trivial, ?_⟩
                        refine ga_want 26 rfl rfl rfl rfl rfl (by kernel_rfl) (by kernel_rfl) rfl (y_eql rfl rfl) ?_
                        refine ga_y 27 rfl (by kernel_rfl) (by kernel_rfl) rfl (y_pick_t rfl rfl rfl) ?_
                        refine ga_y 28 rfl (by kernel_rfl) (by kernel_rfl) rfl (y_move rfl) ?_
                        refine ga_want 29 rfl rfl rfl rfl (decide_eq_true rfl) (by kernel_rfl) (by kernel_rfl) rfl (y_move rfl) ?_
                        refine ga_all1 (i := 30) (by kernel_rfl) ?_
                        · skip
                          refine gb_ef_want rfl rfl rfl rfl (decide_eq_true rfl) (ef_callm en_50 rfl (log_Over _ _ _) (perm_one (i := 3) rfl) rfl) ?_
                          rintro _ _ _ ⟨v142, Mc142, ⟨rfl, rfl⟩, rfl, rfl, rfl⟩
                          refine ⟨sat_S (bl := []) trivial, ?_⟩
                          refine ga_want 31 rfl rfl rfl rfl (decide_eq_true rfl) (by kernel_rfl) (by kernel_rfl) rfl (y_not rfl) ?_
                          refine ga_y 32 rfl (by kernel_rfl) (by kernel_rfl) rfl (y_pick_t rfl (decide_eq_true rfl) rfl) ?_
                          refine ga_y 33 rfl (by kernel_rfl) (by kernel_rfl) rfl (y_assign rfl) ?_
                          refine ga_done (by kernel_rfl) ?_
                          refine gq_then' ?_
                          refine gc_ret ?_
                          refine gq_r1 rfl rfl perm_all ?_
                          exact rfl
                · skip
                  refine gb_y rfl rfl (y_tostr (bytes := zs (64 * n - (joinR W).length)) Try.underlying36 Try.underlying5 Try.underlying9 rfl (blk_own (i := 6) rfl) (zs_len _) (made_get _)) ?_
                  refine ga_y 10 rfl (by kernel_rfl) (by kernel_rfl) rfl (y_sadd rfl rfl (by first | omega | (simp only [List.length_append, List.length_cons, List.length_nil, List.length_take, List.length_drop, List.length_map, List.length_replicate, List.length_set, u8s_length, fx_length, fixed_length, tabTo_len, tabV_len, zs_len, mk_len]; omega))) ?_
                  refine ga_all1 (i := 1) (by kernel_rfl) ?_
                  · skip
                    refine gb_ef rfl (ef_callq en_48 rfl (law_bytes08 _ (joinR W ++ zs (64 * n - (joinR W).length)) 0 n (by simp [zs_len]; omega) (by first | omega | (simp only [List.length_append, List.length_cons, List.length_nil, List.length_take, List.length_drop, List.length_map, List.length_replicate, List.length_set, u8s_length, fx_length, fixed_length, tabTo_len, tabV_len, zs_len, mk_len]; omega)) (by first | omega | (simp only [List.length_append, List.length_cons, List.length_nil, List.length_take, List.length_drop, List.length_map, List.length_replicate, List.length_set, u8s_length, fx_length, fixed_length, tabTo_len, tabV_len, zs_len, mk_len]; omega))) (perm_one (i := 1) rfl) (fun hl I1 h1 h2 _ => dk_lend h1 h2) rfl) ?_
                    rintro _ _ _ ⟨v113, rfl, rfl, rfl, rfl⟩
                    refine ⟨sat_S (bl := []) trivial, ?_⟩
                    refine ga_y 11 rfl (by kernel_rfl) (by kernel_rfl) rfl (y_seql rfl rfl) ?_
                    refine ga_y 12 rfl (by kernel_rfl) (by kernel_rfl) rfl (y_move rfl) ?_
                    refine ga_want 13 rfl rfl rfl rfl (decide_eq_true rfl) (by kernel_rfl) (by kernel_rfl) rfl (y_move rfl) ?_
                    refine ga_want 14 rfl rfl rfl rfl (decide_eq_true rfl) (by kernel_rfl) (by kernel_rfl) rfl (y_eql rfl rfl) ?_
                    refine ga_y 15 rfl (by kernel_rfl) (by kernel_rfl) rfl (y_pick_t rfl (decide_eq_true rfl) rfl) ?_
                    refine ga_y 16 rfl (by kernel_rfl) (by kernel_rfl) rfl (y_move rfl) ?_
                    refine ga_want 17 rfl rfl rfl rfl rfl (by kernel_rfl) (by kernel_rfl) rfl (y_move rfl) ?_
                    refine ga_want 18 rfl rfl rfl rfl rfl (by kernel_rfl) (by kernel_rfl) rfl (y_move rfl) ?_
                    refine ga_all1 (i := 19) (by kernel_rfl) ?_
                    · skip
                      refine gb_ef_want rfl rfl rfl rfl rfl (ef_callq en_49 rfl (ref_Same08 _ _ W (by first | omega | (simp only [List.length_append, List.length_cons, List.length_nil, List.length_take, List.length_drop, List.length_map, List.length_replicate, List.length_set, u8s_length, fx_length, fixed_length, tabTo_len, tabV_len, zs_len, mk_len]; omega))) (perm_two (i := 2) (j := 3) rfl rfl) (fun hl I1 h1 h2 _ => ks_lend2 h1 h2) rfl) ?_
                      rintro _ _ _ ⟨v131, rfl, rfl, rfl, rfl⟩
                      refine ⟨sat_S (bl := []) trivial, ?_⟩
                      refine ga_y 20 rfl (by kernel_rfl) (by kernel_rfl) rfl (y_pick_t rfl rfl rfl) ?_
                      refine ga_y 21 rfl (by kernel_rfl) (by kernel_rfl) rfl (y_move rfl) ?_
                      refine ga_want 22 rfl rfl rfl rfl rfl (by kernel_rfl) (by kernel_rfl) rfl (y_move rfl) ?_
                      refine ga_want 24 rfl rfl rfl rfl rfl (by kernel_rfl) (by kernel_rfl) rfl (y_move rfl) ?_
                      refine ga_want 25 rfl rfl rfl rfl rfl (by kernel_rfl) (by kernel_rfl) rfl (y_slen Try.underlying9 rfl) ?_
                      refine ga_all1 (i := 23) (by kernel_rfl) ?_
                      · skip
                        refine gb_ef_want rfl rfl rfl rfl rfl (ef_callm en_45 rfl (log_End _ _ _) (perm_one (i := 0) rfl) rfl) ?_
                        rintro _ _ _ ⟨v135, Mc135, ⟨rfl, rfl⟩, rfl, rfl, rfl⟩
                        refine ⟨sat_S (bl := []) trivial, ?_⟩
                        refine ga_want 26 rfl rfl rfl rfl rfl (by kernel_rfl) (by kernel_rfl) rfl (y_eql rfl rfl) ?_
                        refine ga_y 27 rfl (by kernel_rfl) (by kernel_rfl) rfl (y_pick_t rfl rfl rfl) ?_
                        refine ga_y 28 rfl (by kernel_rfl) (by kernel_rfl) rfl (y_move rfl) ?_
                        refine ga_want 29 rfl rfl rfl rfl (decide_eq_true rfl) (by kernel_rfl) (by kernel_rfl) rfl (y_move rfl) ?_
                        refine ga_all1 (i := 30) (by kernel_rfl) ?_
                        · skip
                          refine gb_ef_want rfl rfl rfl rfl (decide_eq_true rfl) (ef_callm en_50 rfl (log_Over _ _ _) (perm_one (i := 3) rfl) rfl) ?_
                          rintro _ _ _ ⟨v142, Mc142, ⟨rfl, rfl⟩, rfl, rfl, rfl⟩
                          refine ⟨sat_S (bl := []) trivial, ?_⟩
                          refine ga_want 31 rfl rfl rfl rfl (decide_eq_true rfl) (by kernel_rfl) (by kernel_rfl) rfl (y_not rfl) ?_
                          refine ga_y 32 rfl (by kernel_rfl) (by kernel_rfl) rfl (y_pick_t rfl (decide_eq_true rfl) rfl) ?_
                          refine ga_y 33 rfl (by kernel_rfl) (by kernel_rfl) rfl (y_assign rfl) ?_
                          refine ga_done (by kernel_rfl) ?_
                          refine gq_then' ?_
                          refine gc_ret ?_
                          refine gq_r1 rfl rfl perm_all ?_
                          exact rfl
end Go.Proofs.YtnccebppgmnmfaaS
