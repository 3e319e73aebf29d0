/- log: records on a disk. -/
import Derived.Test.YtnccebppgmnmfaaSepFacts
import Derived.Test.YtnccebppgmnmfaaSepQ
import Derived.Test.YtnccebppgmnmfaaXBuild
import Derived.Test.YtnccebppgmnmfaaXCrc3
import Derived.Test.YtnccebppgmnmfaaXPrim2
set_option linter.unusedVariables false
set_option linter.unusedSimpArgs false
set_option maxRecDepth 20000
namespace Go.Proofs.YtnccebppgmnmfaaS
open Go.RowKit Go.Proofs

theorem disk_ReadN (d : Nat) (F : By) (k n i : Nat) (hF : F.length = 64 * n) (hkm : k ≤ 1099511627776) (hi : i < n) : CtrQ Try.prog 128 [.pointer (some ⟨d, 0, none⟩), .int .i64 (i : Int)] (fun I => DK I d F k) (fun v => v = .tuple #[strV (sec F i), .int .i64 0]) := by
  have := disk_Read d F k n (i : Int) hF hkm
  rw [if_pos (by omega), if_pos (by omega)] at this
  exact this
theorem disk_ReadM (d : Nat) (F : By) (k n : Nat) (hF : F.length = 64 * n) (hkm : k ≤ 1099511627776) : CtrQ Try.prog 128 [.pointer (some ⟨d, 0, none⟩), .int .i64 (-1)] (fun I => DK I d F k) (fun v => v = .tuple #[strV [], .int .i64 1]) := by
  have := disk_Read d F k n (-1) hF hkm
  rw [if_neg (by omega), if_neg (by omega)] at this
  exact this
theorem disk_WriteN {I : PH} (d : Nat) (F : By) (k n i : Nat) (b : By) (hF : F.length = 64 * n) (hi : i < n) (hb : b.length = 64) (hkm : k ≤ 1099511627776) : Ctr Try.prog 54 [.pointer (some ⟨d, 0, none⟩), .int .i64 (i : Int), .string (bs b)] I [dsk d F k] (fun v _ M' => v = .int .i64 0 ∧ M' = [dsk d (ovl F (64 * i) b) (k + 1)]) :=
  disk_Write d F k n (i : Int) b hF (by omega) (by omega) hb hkm
theorem p_RepeatS (f : Nat) (hf : f ≤ 64) : CtrP Try.prog 206 [.string (bs [0]), .int .i64 (64 - (f : Int))] (fun v => v = .string (bs (zs (64 - f)))) := by
  have := p_Repeat (64 - (f : Int)) (by omega) (by omega)
  rwa [show (64 - (f : Int)).toNat = 64 - f by omega] at this
theorem dsk_weak {d : Nat} {F F' : By} {k k' : Nat} (hF : F = F') (hk : k ≤ k') : ∀ h, dsk d F k h → dsk d F' k' h := by
  subst hF
  rintro h ⟨⟨⟨sb, wv, S, W⟩, hD, hw⟩, hs⟩
  exact ⟨⟨⟨sb, wv, S, W⟩, hD, Nat.le_trans hw hk⟩, hs⟩
abbrev logC (d : Nat) (e : Int) : List Value := tabV ++ [.pointer (some ⟨d, 0, none⟩), .int .i64 e, .bool false]
abbrev logE (l d : Nat) (e : Int) : Ent := cl l 218 (logC d e)
theorem tab_get {l : List Value} (j : Nat) {v : Value} (h : l[j]? = some v) : (tabV ++ l)[256 + j]? = some v := by
  rw [List.getElem?_append_right (by rw [tabV_len]; omega), tabV_len, Nat.add_sub_cancel_left]; exact h
theorem tab_at {l : List Value} : ∀ j u, tabV[j]? = some u → (tabV ++ l)[0 + j]? = some u := fun j u h => by
  rw [Nat.zero_add, List.getElem?_append_left (List.getElem?_eq_some_iff.1 h).1]; exact h
theorem tab_set (l : List Value) (j : Nat) (v : Value) : (tabV ++ l).set (256 + j) v = tabV ++ l.set j v := by
  rw [List.set_append_right _ _ (by rw [tabV_len]; omega), tabV_len, Nat.add_sub_cancel_left]
theorem log_len (d : Nat) (e : Int) : (logC d e).length = 259 := by simp [logC, tabV_len]
theorem setAt_head : ∀ (vs l r p : List Value), vs.length = l.length → setAt (p ++ (l ++ r)) p.length vs = p ++ (vs ++ r)
  | [], [], r, p, _ => rfl
  | [], _ :: _, _, p, h => by cases h
  | _ :: _, [], _, p, h => by cases h
  | v :: vs, u :: l, r, p, h => by
    have ih := setAt_head vs l r (p ++ [v]) (by simpa using h)
    simp only [setAt]
    simpa using ih
theorem fill_tab {T : List (Nat × Nat)} {r : List Value} {ps : List (Nat × Value)} (hT : T[0]? = some (0, 256)) : fillL T (List.replicate 256 (Value.int .u32 0) ++ r) ((0, .agg tabV.toArray) :: ps) = fillL T (tabV ++ r) ps := by
  have h1 : (cellsL (.agg tabV.toArray)) = tabV := rfl
  have h2 := setAt_head tabV (List.replicate 256 (Value.int .u32 0)) r [] (by rw [tabV_len, List.length_replicate])
  simp only [fillL, hT, h1, tabV_len, List.length_append, List.length_replicate]
  have h3 : (Nat.beq 256 256 && Nat.ble (0 + 256) (256 + r.length)) = true := by simp
  rw [h3]
  simpa using congrArg (fun l => fillL T l ps) h2
theorem fill_one {T : List (Nat × Nat)} {r : List Value} {ps : List (Nat × Value)} {i j : Nat} {v : Value} (hT : T[i]? = some (256 + j, 1)) (hv : one1 v = true) (hj : j < r.length) : fillL T (tabV ++ r) ((i, v) :: ps) = fillL T (tabV ++ r.set j v) ps := by
  simp only [fillL, hT, cellsL_one hv, List.length_append, tabV_len, List.length_cons, List.length_nil, setAt, tab_set]
  have h3 : (Nat.beq (0 + 1) 1 && Nat.ble (256 + j + (0 + 1)) (256 + r.length)) = true := by simp; omega
  rw [h3]; rfl
theorem log_fill (d : Nat) (e : Int) : fillL [(0, 256), (256, 1), (257, 1), (258, 1)] (List.replicate 256 (Value.int .u32 0) ++ [.pointer none, .int .i64 0, .bool false]) [(0, .agg tabV.toArray), (1, .pointer (some ⟨d, 0, none⟩)), (2, .int .i64 e)] = some (logC d e) := by
  rw [fill_tab rfl, fill_one (j := 0) rfl rfl (by simp), fill_one (j := 1) rfl rfl (by simp)]; rfl
theorem osl_snocS (e : Nat) (v : Value) (o : List By) (r : By) : osl e 1 v (o.length + 1) (o.map strV ++ [strV r]) = osl e 1 v (o ++ [r]).length ((o ++ [r]).map strV) := by simp
theorem sec_take (F : By) (i : Nat) : F.take (64 * i) ++ sec F i = F.take (64 * (i + 1)) := by
  rw [Nat.mul_add, List.take_add]; rfl
theorem quo64 (m : Nat) (h : m ≤ 1099511627776) : IntKind.i64.wrap (((m : Nat) : Int).tdiv 64) = ((m / 64 : Nat) : Int) := by
  rw [Int.tdiv_eq_ediv_of_nonneg (by omega), wr_i64] <;> omega
theorem ovl_nil {F r : By} {e : Nat} : ovl F e (r.take 0) = F := by simp [ovl]
theorem oneF_no {b : By} {n : Nat} (hn : n = val (b.take 2)) (h6 : ¬ b.length < 6) (h : n < 1 ∨ n > 4000 ∨ n > b.length - 6) : oneF b = [] := by
  subst hn; rw [oneF, if_neg h6, if_pos h]
theorem oneF_bent {b : By} {n : Nat} (hn : n = val (b.take 2)) (h6 : ¬ b.length < 6) (h : ¬ (n < 1 ∨ n > 4000 ∨ n > b.length - 6)) (hm : mk ((b.take (6 + n)).drop 6) ≠ b.take (6 + n)) : oneF b = [] := by
  subst hn; rw [oneF, if_neg h6, if_neg h, if_neg hm]
theorem oneF_ok {b : By} {n : Nat} (hn : n = val (b.take 2)) (h6 : ¬ b.length < 6) (h : ¬ (n < 1 ∨ n > 4000 ∨ n > b.length - 6)) (hm : mk ((b.take (6 + n)).drop 6) = b.take (6 + n)) : oneF b = (b.take (6 + n)).drop 6 := by
  subst hn; rw [oneF, if_neg h6, if_neg h, if_pos hm]
theorem toNat6 (n : Nat) : ((6 : Int) + (n : Int)).toNat = 6 + n := by omega
theorem take_two {b : By} (h : ¬ b.length < 6) : (takeB b false 2).1 = b.take 2 := by
  unfold takeB
  rw [if_neg (by rintro (e | e | e); cases e; omega; omega)]; rfl
/-- What an append answers: 0, too long, no room; where the end is then; what the disk shows. -/
def appR (n e : Nat) (r : By) : Int := if r.length < 1 ∨ 4000 < r.length then 3 else if 64 * n < e + 6 + r.length then 5 else 0
def appE (n e : Nat) (r : By) : Nat := if appR n e r = 0 then e + (6 + r.length) else e
def appF (n : Nat) (F : By) (e : Nat) (r : By) : By := if appR n e r = 0 then ovl F e (mk r) else F
theorem app_long {n e : Nat} {F r : By} (h : r.length < 1 ∨ 4000 < r.length) : appR n e r = 3 ∧ appE n e r = e ∧ appF n F e r = F := by
  have : appR n e r = 3 := by rw [appR, if_pos h]
  exact ⟨this, by rw [appE, this]; rfl, by rw [appF, this]; rfl⟩
theorem app_full {n e : Nat} {F r : By} (h : ¬ (r.length < 1 ∨ 4000 < r.length)) (h2 : 64 * n < e + 6 + r.length) : appR n e r = 5 ∧ appE n e r = e ∧ appF n F e r = F := by
  have : appR n e r = 5 := by rw [appR, if_neg h, if_pos h2]
  exact ⟨this, by rw [appE, this]; rfl, by rw [appF, this]; rfl⟩
theorem app_good {n e : Nat} {F r : By} (h : ¬ (r.length < 1 ∨ 4000 < r.length)) (h2 : ¬ 64 * n < e + 6 + r.length) : appR n e r = 0 ∧ appE n e r = e + (6 + r.length) ∧ appF n F e r = ovl F e (mk r) := by
  have : appR n e r = 0 := by rw [appR, if_neg h, if_neg h2]
  exact ⟨this, by rw [appE, this]; rfl, by rw [appF, this]; rfl⟩

theorem log_made (r : By) (hr : r.length ≤ 1048576) : CtrP Try.prog 133 [.agg tabV.toArray, .string (bs r)] (fun v => v = .string (bs (mk r))) := by
  have hcs := crcSum_lt (fixed r.length 2 true ++ r)
  refine CtrP.of fun I => ?_
  refine ctr_of Try.func133 rfl (n := 21) rfl rfl ?_
  intro G R
  simp only [argL]
  refine gc_seq ?_
  refine gc_region ?_
  refine gl_ef (ef_box rfl (l := _) rfl rfl) ?_
  rintro _ _ _ ⟨b2, rfl, rfl, rfl⟩
  refine gl_y rfl (y_assign rfl) ?_
  refine gl_nil ?_
  refine gq_then' ?_
  refine gc_seq ?_
  refine gc_region ?_
  refine gl_y rfl (y_move rfl) ?_
  refine gl_y rfl (y_slen Try.underlying9 rfl) ?_
  first | refine gl_y rfl (y_conv Try.underlying3 Try.underlying24 rfl (wr_u64 (by omega) (by omega))) ?_ | refine gl_y rfl (y_conv Try.underlying3 Try.underlying24 rfl rfl) ?_
  refine gl_ef (ef_callp en_114 rfl (prim_Fixed _ 2 true (by first | omega | (simp only [List.length_append, List.length_cons, List.length_nil, List.length_take, List.length_drop, List.length_map, List.length_replicate, List.length_set, u8s_length, fx_length, fixed_length, tabTo_len, tabV_len]; omega)) (by first | omega | (simp only [List.length_append, List.length_cons, List.length_nil, List.length_take, List.length_drop, List.length_map, List.length_replicate, List.length_set, u8s_length, fx_length, fixed_length, tabTo_len, tabV_len]; omega)) (by first | omega | (simp only [List.length_append, List.length_cons, List.length_nil, List.length_take, List.length_drop, List.length_map, List.length_replicate, List.length_set, u8s_length, fx_length, fixed_length, tabTo_len, tabV_len]; omega))) rfl) ?_
  rintro _ _ _ ⟨v9, rfl, rfl, rfl, rfl⟩
  refine gl_y rfl (y_assign rfl) ?_
  refine gl_nil ?_
  refine gq_then' ?_
  refine gc_seq ?_
  refine gc_region ?_
  refine gl_y rfl (y_move rfl) ?_
  refine gl_y rfl (y_loadA ag_63 sz_63 rfl (blk_own (i := 0) rfl) (vs := tabV) tabV_len (at_all tabV)) ?_
  refine gl_y rfl (y_move rfl) ?_
  refine gl_y rfl (y_move rfl) ?_
  refine gl_y rfl (y_sadd rfl rfl (by first | omega | (simp only [List.length_append, List.length_cons, List.length_nil, List.length_take, List.length_drop, List.length_map, List.length_replicate, List.length_set, u8s_length, fx_length, fixed_length, tabTo_len, tabV_len]; omega))) ?_
  refine gl_ef (ef_callp en_115 rfl (crc_SumT _ (by first | omega | (simp only [List.length_append, List.length_cons, List.length_nil, List.length_take, List.length_drop, List.length_map, List.length_replicate, List.length_set, u8s_length, fx_length, fixed_length, tabTo_len, tabV_len]; omega))) rfl) ?_
  rintro _ _ _ ⟨v15, rfl, rfl, rfl, rfl⟩
  refine gl_y rfl (y_conv Try.underlying61 Try.underlying24 rfl (wr_u64 (by omega) (by omega))) ?_
  refine gl_ef (ef_callp en_114 rfl (prim_Fixed _ 4 true (by first | omega | (simp only [List.length_append, List.length_cons, List.length_nil, List.length_take, List.length_drop, List.length_map, List.length_replicate, List.length_set, u8s_length, fx_length, fixed_length, tabTo_len, tabV_len]; omega)) (by first | omega | (simp only [List.length_append, List.length_cons, List.length_nil, List.length_take, List.length_drop, List.length_map, List.length_replicate, List.length_set, u8s_length, fx_length, fixed_length, tabTo_len, tabV_len]; omega)) (by first | omega | (simp only [List.length_append, List.length_cons, List.length_nil, List.length_take, List.length_drop, List.length_map, List.length_replicate, List.length_set, u8s_length, fx_length, fixed_length, tabTo_len, tabV_len]; omega))) rfl) ?_
  rintro _ _ _ ⟨v17, rfl, rfl, rfl, rfl⟩
  refine gl_y rfl (y_sadd rfl rfl (by first | omega | (simp only [List.length_append, List.length_cons, List.length_nil, List.length_take, List.length_drop, List.length_map, List.length_replicate, List.length_set, u8s_length, fx_length, fixed_length, tabTo_len, tabV_len]; omega))) ?_
  refine gl_y rfl (y_move rfl) ?_
  refine gl_y rfl (y_sadd rfl rfl (by first | omega | (simp only [List.length_append, List.length_cons, List.length_nil, List.length_take, List.length_drop, List.length_map, List.length_replicate, List.length_set, u8s_length, fx_length, fixed_length, tabTo_len, tabV_len]; omega))) ?_
  refine gl_y rfl (y_assign rfl) ?_
  refine gl_nil ?_
  refine gq_then' ?_
  refine gc_ret ?_
  refine gq_r1 rfl rfl perm_all ?_
  exact rfl
theorem log_fits (n : Int) : CtrP Try.prog 132 [.int .i64 n] (fun v => v = .bool (decide (1 ≤ n ∧ n ≤ 4000))) := by
  refine CtrP.of fun I => ?_
  refine ctr_of Try.func132 rfl (n := 9) rfl rfl ?_
  intro G R
  simp only [argL]
  refine gc_seq ?_
  refine gc_region ?_
  refine gl_y rfl (y_assign rfl) ?_
  refine gl_nil ?_
  refine gq_then' ?_
  refine gc_seq ?_
  refine gc_region ?_
  refine gl_y rfl (y_move rfl) ?_
  refine gl_y rfl (y_geq rfl rfl) ?_
  refine gl_y rfl (y_move rfl) ?_
  refine gl_if (t := 5) rfl (fun h5 => ?_) (fun h5 => ?_)
  · have g5 := h5
    try (replace g5 := of_decide_eq_true g5)
    first
    | exact absurd h5 (by decide)
    | (exfalso; omega)
    | skip
      refine gl_want rfl rfl rfl h5 ?_
      refine gl_y rfl (y_move rfl) ?_
      refine gl_want rfl rfl rfl h5 ?_
      refine gl_y rfl (y_leq rfl rfl) ?_
      refine gl_y rfl (y_pick_t rfl h5 rfl) ?_
      refine gl_y rfl (y_assign rfl) ?_
      refine gl_nil ?_
      refine gq_then' ?_
      refine gc_ret ?_
      refine gq_r1 rfl rfl perm_all ?_
      first | (rw [show decide (n ≤ 4000) = decide (1 ≤ n ∧ n ≤ 4000) from decide_eq_decide.2 ⟨fun h => ⟨by omega, h⟩, fun h => h.2⟩]) | (rw [show decide (1 ≤ n ∧ n ≤ 4000) = false from decide_eq_false (by omega)])
  · have g5 := h5
    try (replace g5 := of_decide_eq_false g5)
    first
    | exact absurd h5 (by decide)
    | (exfalso; omega)
    | skip
      refine gl_skip rfl rfl rfl h5 rfl ?_
      refine gl_skip rfl rfl rfl h5 rfl ?_
      refine gl_y rfl (y_pick_f rfl h5 rfl) ?_
      refine gl_y rfl (y_assign rfl) ?_
      refine gl_nil ?_
      refine gq_then' ?_
      refine gc_ret ?_
      refine gq_r1 rfl rfl perm_all ?_
      first | (rw [show decide (n ≤ 4000) = decide (1 ≤ n ∧ n ≤ 4000) from decide_eq_decide.2 ⟨fun h => ⟨by omega, h⟩, fun h => h.2⟩]) | (rw [show decide (1 ≤ n ∧ n ≤ 4000) = false from decide_eq_false (by omega)])
theorem log_one (b : By) (hb : b.length ≤ 1099511627776) : CtrP Try.prog 136 [.agg tabV.toArray, .string (bs b)] (fun v => v = .string (bs (oneF b))) := by
  refine CtrP.of fun I => ?_
  refine ctr_of Try.func136 rfl (n := 40) rfl rfl ?_
  intro G R
  simp only [argL]
  refine gc_seq ?_
  refine gc_region ?_
  refine gl_ef (ef_box rfl (l := _) rfl rfl) ?_
  rintro _ _ _ ⟨b2, rfl, rfl, rfl⟩
  refine gl_y rfl (y_assign rfl) ?_
  refine gl_nil ?_
  refine gq_then' ?_
  refine gc_seq ?_
  refine gc_seq ?_
  refine gc_region ?_
  refine gl_y rfl (y_move rfl) ?_
  refine gl_y rfl (y_slen Try.underlying9 rfl) ?_
  refine gl_y rfl (y_lss rfl rfl) ?_
  refine gl_nil ?_
  refine gq_then' ?_
  refine gc_if rfl (fun h8 => ?_) (fun h8 => ?_)
  · have g8 := h8
    try (replace g8 := of_decide_eq_true g8)
    try (replace g8 := not_t g8)
    first
    | exact absurd h8 (by decide)
    | (exfalso; omega)
    | skip
      refine gc_seq ?_
      refine gc_region ?_
      refine gl_y rfl (y_assign rfl) ?_
      refine gl_nil ?_
      refine gq_then' ?_
      refine gc_ret ?_
      refine gq_pass_ret ?_
      refine gq_r1 rfl rfl perm_all ?_
      rw [oneF, if_pos (by omega)]
  · have g8 := h8
    try (replace g8 := of_decide_eq_false g8)
    try (replace g8 := not_f g8)
    first
    | exact absurd h8 (by decide)
    | (exfalso; omega)
    | skip
      refine gc_skip ?_
      refine gq_then' ?_
      refine gc_seq ?_
      refine gc_region ?_
      refine gl_y rfl (y_move rfl) ?_
      refine gl_ef (ef_callm en_97 rfl (prim_New _) perm_all rfl) ?_
      rintro _ _ _ ⟨v10, Mc10, ⟨b10, rfl, rfl⟩, rfl, rfl, rfl⟩
      refine gl_ef (ef_callm en_207 rfl (cur_Fixed _ _ _ 2 true (by decide) (by decide) (by first | omega | (simp only [List.length_append, List.length_cons, List.length_nil, List.length_take, List.length_drop, List.length_map, List.length_replicate, List.length_set, u8s_length, fx_length, fixed_length, tabTo_len, tabV_len]; omega))) (perm_one (i := 0) rfl) rfl) ?_
      rintro _ _ _ ⟨v11, Mc11, ⟨rfl, rfl⟩, rfl, rfl, rfl⟩
      have hv : val (b.take 2) < 65536 := Nat.lt_of_lt_of_le (val_lt _) (Nat.le_trans (Nat.pow_le_pow_right (by decide) (List.length_take_le 2 b)) (by decide))
      rw [take_two (by omega)]
      show GL _ _ _ _ _ ((11, .int .u64 ((val (b.take 2) : Nat) : Int)) :: _) _ _ _ _
      generalize hn : val (b.take 2) = n at hv
      replace hn := hn.symm
      first | refine gl_y rfl (y_conv Try.underlying24 Try.underlying3 rfl (wr_i64 (by omega) (by omega))) ?_ | refine gl_y rfl (y_conv Try.underlying24 Try.underlying3 rfl rfl) ?_
      refine gl_y rfl (y_assign rfl) ?_
      refine gl_nil ?_
      refine gq_then' ?_
      refine gc_seq ?_
      refine gc_seq ?_
      refine gc_region_draw (N := 23) [(b2, tabV)] rfl follows_mixed (by repeat (first | exact panicOk_body | refine panicOk_then ?_ | refine panicOk_in ?_)) (by kernel_rfl) ?_ ?_
      · exact ⟨blk_own (i := 1) rfl, trivial⟩
      · skip
        refine ga_y 0 rfl (by kernel_rfl) (by kernel_rfl) rfl (y_move rfl) ?_
        refine ga_all1 (i := 1) (by kernel_rfl) ?_
        · skip
          refine gb_ef rfl (ef_callp en_132 rfl (log_fits _) rfl) ?_
          rintro _ _ _ ⟨v14, rfl, rfl, rfl, rfl⟩
          refine ⟨sat_S ⟨blk_own (i := 1) rfl, trivial⟩, ?_⟩
          refine ga_y 2 rfl (by kernel_rfl) (by kernel_rfl) rfl (y_not rfl) ?_
          refine ga_y 3 rfl (by kernel_rfl) (by kernel_rfl) rfl (y_move rfl) ?_
          refine ga_if (t := 16) rfl (fun h16 => ?_) (fun h16 => ?_)
          · have g16 := h16
            try (replace g16 := of_decide_eq_true g16)
            try (replace g16 := not_t g16)
            first
            | exact absurd h16 (by decide)
            | (exfalso; omega)
            | skip
              refine ga_skip 4 rfl rfl rfl rfl h16 (by kernel_rfl) (by kernel_rfl) rfl ?_
              refine ga_skip 5 rfl rfl rfl rfl h16 (by kernel_rfl) (by kernel_rfl) rfl ?_
              refine ga_skip 6 rfl rfl rfl rfl h16 (by kernel_rfl) (by kernel_rfl) rfl ?_
              refine ga_skip 7 rfl rfl rfl rfl h16 (by kernel_rfl) (by kernel_rfl) rfl ?_
              refine ga_skip 8 rfl rfl rfl rfl h16 (by kernel_rfl) (by kernel_rfl) rfl ?_
              refine ga_y 9 rfl (by kernel_rfl) (by kernel_rfl) rfl (y_pick_t rfl h16 rfl) ?_
              refine ga_y 10 rfl (by kernel_rfl) (by kernel_rfl) rfl (y_move rfl) ?_
              refine ga_skip 11 rfl rfl rfl rfl rfl (by kernel_rfl) (by kernel_rfl) rfl ?_
              refine ga_skip 12 rfl rfl rfl rfl rfl (by kernel_rfl) (by kernel_rfl) rfl ?_
              refine ga_skip 13 rfl rfl rfl rfl rfl (by kernel_rfl) (by kernel_rfl) rfl ?_
              refine ga_skip 14 rfl rfl rfl rfl rfl (by kernel_rfl) (by kernel_rfl) rfl ?_
              refine ga_skip 15 rfl rfl rfl rfl rfl (by kernel_rfl) (by kernel_rfl) rfl ?_
              refine ga_skip 17 rfl rfl rfl rfl rfl (by kernel_rfl) (by kernel_rfl) rfl ?_
              refine ga_skip 18 rfl rfl rfl rfl rfl (by kernel_rfl) (by kernel_rfl) rfl ?_
              refine ga_skip 19 rfl rfl rfl rfl rfl (by kernel_rfl) (by kernel_rfl) rfl ?_
              refine ga_skip 20 rfl rfl rfl rfl rfl (by kernel_rfl) (by kernel_rfl) rfl ?_
              refine ga_all1 (i := 16) (by kernel_rfl) ?_
              · skip
                refine gb_skip rfl rfl rfl rfl rfl rfl ?_
                refine ga_skip 21 rfl rfl rfl rfl rfl (by kernel_rfl) (by kernel_rfl) rfl ?_
                refine ga_y 22 rfl (by kernel_rfl) (by kernel_rfl) rfl (y_pick_t rfl rfl rfl) ?_
                refine ga_done (by kernel_rfl) ?_
                refine gq_then' ?_
                refine gc_t rfl rfl ?_
                refine gc_seq ?_
                refine gc_region ?_
                refine gl_y rfl (y_assign rfl) ?_
                refine gl_nil ?_
                refine gq_then' ?_
                refine gc_ret ?_
                refine gq_pass_ret ?_
                refine gq_r1 rfl rfl perm_all ?_
                rw [oneF_no hn (by omega) (by omega)]
          · have g16 := h16
            try (replace g16 := of_decide_eq_false g16)
            try (replace g16 := not_f g16)
            first
            | exact absurd h16 (by decide)
            | (exfalso; omega)
            | skip
              refine ga_want 4 rfl rfl rfl rfl h16 (by kernel_rfl) (by kernel_rfl) rfl (y_move rfl) ?_
              refine ga_want 5 rfl rfl rfl rfl h16 (by kernel_rfl) (by kernel_rfl) rfl (y_move rfl) ?_
              refine ga_want 6 rfl rfl rfl rfl h16 (by kernel_rfl) (by kernel_rfl) rfl (y_slen Try.underlying9 rfl) ?_
              first | refine ga_want 7 rfl rfl rfl rfl h16 (by kernel_rfl) (by kernel_rfl) rfl (y_sub rfl rfl (wr_i64 (by omega) (by omega))) ?_ | refine ga_want 7 rfl rfl rfl rfl h16 (by kernel_rfl) (by kernel_rfl) rfl (y_sub rfl rfl rfl) ?_
              refine ga_want 8 rfl rfl rfl rfl h16 (by kernel_rfl) (by kernel_rfl) rfl (y_gtr rfl rfl) ?_
              refine ga_y 9 rfl (by kernel_rfl) (by kernel_rfl) rfl (y_pick_f rfl h16 rfl) ?_
              refine ga_y 10 rfl (by kernel_rfl) (by kernel_rfl) rfl (y_move rfl) ?_
              refine ga_if (t := 23) rfl (fun h23 => ?_) (fun h23 => ?_)
              · have g23 := h23
                try (replace g23 := of_decide_eq_true g23)
                try (replace g23 := not_t g23)
                first
                | exact absurd h23 (by decide)
                | (exfalso; omega)
                | skip
                  refine ga_skip 11 rfl rfl rfl rfl h23 (by kernel_rfl) (by kernel_rfl) rfl ?_
                  refine ga_skip 12 rfl rfl rfl rfl h23 (by kernel_rfl) (by kernel_rfl) rfl ?_
                  refine ga_skip 13 rfl rfl rfl rfl h23 (by kernel_rfl) (by kernel_rfl) rfl ?_
                  refine ga_skip 14 rfl rfl rfl rfl h23 (by kernel_rfl) (by kernel_rfl) rfl ?_
                  refine ga_skip 15 rfl rfl rfl rfl h23 (by kernel_rfl) (by kernel_rfl) rfl ?_
                  refine ga_skip 17 rfl rfl rfl rfl h23 (by kernel_rfl) (by kernel_rfl) rfl ?_
                  refine ga_skip 18 rfl rfl rfl rfl h23 (by kernel_rfl) (by kernel_rfl) rfl ?_
                  refine ga_skip 19 rfl rfl rfl rfl h23 (by kernel_rfl) (by kernel_rfl) rfl ?_
                  refine ga_skip 20 rfl rfl rfl rfl h23 (by kernel_rfl) (by kernel_rfl) rfl ?_
                  refine ga_all1 (i := 16) (by kernel_rfl) ?_
                  · skip
                    refine gb_skip rfl rfl rfl rfl h23 rfl ?_
                    refine ga_skip 21 rfl rfl rfl rfl h23 (by kernel_rfl) (by kernel_rfl) rfl ?_
                    refine ga_y 22 rfl (by kernel_rfl) (by kernel_rfl) rfl (y_pick_t rfl h23 rfl) ?_
                    refine ga_done (by kernel_rfl) ?_
                    refine gq_then' ?_
                    refine gc_t rfl rfl ?_
                    refine gc_seq ?_
                    refine gc_region ?_
                    refine gl_y rfl (y_assign rfl) ?_
                    refine gl_nil ?_
                    refine gq_then' ?_
                    refine gc_ret ?_
                    refine gq_pass_ret ?_
                    refine gq_r1 rfl rfl perm_all ?_
                    rw [oneF_no hn (by omega) (by omega)]
              · have g23 := h23
                try (replace g23 := of_decide_eq_false g23)
                try (replace g23 := not_f g23)
                first
                | exact absurd h23 (by decide)
                | (exfalso; omega)
                | skip
                  refine ga_want 11 rfl rfl rfl rfl h23 (by kernel_rfl) (by kernel_rfl) rfl (y_loadA ag_63 sz_63 rfl (blk_S (k := 0) rfl) (vs := tabV) tabV_len (at_all tabV)) ?_
                  refine ga_want 12 rfl rfl rfl rfl h23 (by kernel_rfl) (by kernel_rfl) rfl (y_move rfl) ?_
                  refine ga_want 13 rfl rfl rfl rfl h23 (by kernel_rfl) (by kernel_rfl) rfl (y_move rfl) ?_
                  first | refine ga_want 14 rfl rfl rfl rfl h23 (by kernel_rfl) (by kernel_rfl) rfl (y_add rfl rfl (wr_i64 (by omega) (by omega))) ?_ | refine ga_want 14 rfl rfl rfl rfl h23 (by kernel_rfl) (by kernel_rfl) rfl (y_add rfl rfl rfl) ?_
                  refine ga_want 15 rfl rfl rfl rfl h23 (by kernel_rfl) (by kernel_rfl) rfl (y_sslice Try.underlying9 rfl rfl rfl (by omega) (by omega) (by first | omega | (simp only [List.length_append, List.length_cons, List.length_nil, List.length_take, List.length_drop, List.length_map, List.length_replicate, List.length_set, u8s_length, fx_length, fixed_length, tabTo_len, tabV_len]; omega))) ?_
                  refine ga_want 17 rfl rfl rfl rfl h23 (by kernel_rfl) (by kernel_rfl) rfl (y_move rfl) ?_
                  refine ga_want 18 rfl rfl rfl rfl h23 (by kernel_rfl) (by kernel_rfl) rfl (y_move rfl) ?_
                  first | refine ga_want 19 rfl rfl rfl rfl h23 (by kernel_rfl) (by kernel_rfl) rfl (y_add rfl rfl (wr_i64 (by omega) (by omega))) ?_ | refine ga_want 19 rfl rfl rfl rfl h23 (by kernel_rfl) (by kernel_rfl) rfl (y_add rfl rfl rfl) ?_
                  refine ga_want 20 rfl rfl rfl rfl h23 (by kernel_rfl) (by kernel_rfl) rfl (y_sslice_h Try.underlying9 rfl rfl (by omega) (by first | omega | (simp only [List.length_append, List.length_cons, List.length_nil, List.length_take, List.length_drop, List.length_map, List.length_replicate, List.length_set, u8s_length, fx_length, fixed_length, tabTo_len, tabV_len]; omega))) ?_
                  refine ga_all1 (i := 16) (by kernel_rfl) ?_
                  · skip
                    refine gb_ef_want rfl rfl rfl rfl h23 (ef_callp en_133 rfl (log_made _ (by simp only [List.length_take, List.length_drop]; omega)) rfl) ?_
                    rintro _ _ _ ⟨v29, rfl, rfl, rfl, rfl⟩
                    refine ⟨sat_S ⟨blk_own (i := 1) rfl, trivial⟩, ?_⟩
                    refine ga_want 21 rfl rfl rfl rfl h23 (by kernel_rfl) (by kernel_rfl) rfl (y_sneq rfl rfl) ?_
                    refine ga_y 22 rfl (by kernel_rfl) (by kernel_rfl) rfl (y_pick_f rfl h23 rfl) ?_
                    refine ga_done (by kernel_rfl) ?_
                    refine gq_then' ?_
                    refine gc_if rfl (fun h35 => ?_) (fun h35 => ?_)
                    · have g35 := h35
                      try (replace g35 := of_decide_eq_true g35)
                      try (replace g35 := not_t g35)
                      first
                      | exact absurd h35 (by decide)
                      | (exfalso; omega)
                      | skip
                        refine gc_seq ?_
                        refine gc_region ?_
                        refine gl_y rfl (y_assign rfl) ?_
                        refine gl_nil ?_
                        refine gq_then' ?_
                        refine gc_ret ?_
                        refine gq_pass_ret ?_
                        refine gq_r1 rfl rfl perm_all ?_
                        rw [oneF_bent hn (by omega) (by omega) (by rw [← toNat6]; exact g35)]
                    · have g35 := h35
                      try (replace g35 := of_decide_eq_false g35)
                      try (replace g35 := not_f g35)
                      first
                      | exact absurd h35 (by decide)
                      | (exfalso; omega)
                      | skip
                        refine gc_skip ?_
                        refine gq_then' ?_
                        refine gc_seq ?_
                        refine gc_region ?_
                        refine gl_y rfl (y_move rfl) ?_
                        refine gl_y rfl (y_move rfl) ?_
                        first | refine gl_y rfl (y_add rfl rfl (wr_i64 (by omega) (by omega))) ?_ | refine gl_y rfl (y_add rfl rfl rfl) ?_
                        refine gl_y rfl (y_sslice Try.underlying9 rfl rfl rfl (by omega) (by omega) (by first | omega | (simp only [List.length_append, List.length_cons, List.length_nil, List.length_take, List.length_drop, List.length_map, List.length_replicate, List.length_set, u8s_length, fx_length, fixed_length, tabTo_len, tabV_len]; omega))) ?_
                        refine gl_y rfl (y_assign rfl) ?_
                        refine gl_nil ?_
                        refine gq_then' ?_
                        refine gc_ret ?_
                        refine gq_r1 rfl rfl perm_all ?_
                        rw [oneF_ok hn (by omega) (by omega) (by rw [← toNat6]; exact Classical.not_not.1 g35), ← toNat6]; rfl
theorem log_Stands {I : PH} (b : By) (hb : b.length ≤ 1099511627776) : Ctr Try.prog 52 [.agg tabV.toArray, .string (bs b)] I [] (fun v _ M' => ∃ A, v = .tuple #[A, .int .i64 (endF b : Int)] ∧ M' = [osl 9 1 A (standsF b).length ((standsF b).map strV)]) := by
  refine ctr_of Try.func52 rfl (n := 27) rfl rfl ?_
  intro G R
  simp only [argL]
  refine gc_seq ?_
  refine gc_region ?_
  refine gl_ef (ef_box rfl (l := _) rfl rfl) ?_
  rintro _ _ _ ⟨b2, rfl, rfl, rfl⟩
  refine gl_y rfl (y_assign rfl) ?_
  refine gl_y rfl (y_assign rfl) ?_
  refine gl_nil ?_
  refine gq_then' ?_
  refine gc_seq ?_
  refine gc_region ?_
  refine gl_y rfl (y_assign rfl) ?_
  refine gl_nilslice 9 1 ?_
  refine gl_nil ?_
  refine gq_then' ?_
  refine gc_seq ?_
  refine gc_region ?_
  refine gl_y rfl (y_assign rfl) ?_
  refine gl_nil ?_
  refine gq_then' ?_
  refine gc_block ?_
  refine gc_loopW (α := List By × Nat × Value) [9, 10, 11, 12, 13, 8, 14, 15, 16, 17, 4, 5, 18, 19, 20, 21, 6, 22, 23, 24, 25, 26, 7] (fun (⟨o, a, v⟩ : List By × Nat × Value) => [(6, v), (7, .int .i64 (a : Int))]) (fun (⟨o, a, v⟩ : List By × Nat × Value) => [cl b2 63 tabV, osl 9 1 v o.length (o.map strV)]) (fun (⟨o, a, v⟩ : List By × Nat × Value) => StAt b (b.drop a) o a ∧ o.length ≤ a) (fun (⟨o, a, v⟩ : List By × Nat × Value) => (b.drop a).length) ([], 0, .slice none 0 0) ?_ perm_same ?_ ?_
  · exact ⟨StAt.zero b, Nat.le_refl _⟩
  · exact ⟨rfl, rfl, trivial⟩
  · rintro ⟨o, a, v⟩ ⟨hD, hoa⟩
    have hD1 : a ≤ b.length := hD.le
    replace hoa : o.length ≤ a := hoa
    have hD2 := oneF_len (b.drop a)
    rw [List.length_drop] at hD2
    have hD3 := @oneF_six (b.drop a)
    rw [List.length_drop] at hD3
    refine gc_block ?_
    refine gc_seq ?_
    refine gc_region_draw (N := 6) [(b2, tabV)] rfl follows_mixed (by repeat (first | exact panicOk_body | refine panicOk_then ?_ | refine panicOk_in ?_)) (by kernel_rfl) ?_ ?_
    · exact ⟨blk_own (i := 0) rfl, trivial⟩
    · skip
      refine ga_y 0 rfl (by kernel_rfl) (by kernel_rfl) rfl (y_loadA ag_63 sz_63 rfl (blk_S (k := 0) rfl) (vs := tabV) tabV_len (at_all tabV)) ?_
      refine ga_y 1 rfl (by kernel_rfl) (by kernel_rfl) rfl (y_move rfl) ?_
      refine ga_y 2 rfl (by kernel_rfl) (by kernel_rfl) rfl (y_move rfl) ?_
      refine ga_y 3 rfl (by kernel_rfl) (by kernel_rfl) rfl (y_sslice_l Try.underlying9 rfl rfl (by omega) (by first | omega | (simp only [List.length_append, List.length_cons, List.length_nil, List.length_take, List.length_drop, List.length_map, List.length_replicate, List.length_set, u8s_length, fx_length, fixed_length, tabTo_len, tabV_len]; omega))) ?_
      refine ga_all1 (i := 4) (by kernel_rfl) ?_
      · skip
        refine gb_ef rfl (ef_callp en_136 rfl (log_one (b.drop a) (by simp only [List.length_drop]; omega)) rfl) ?_
        rintro _ _ _ ⟨v13, rfl, rfl, rfl, rfl⟩
        refine ⟨sat_S ⟨blk_own (i := 0) rfl, trivial⟩, ?_⟩
        refine ga_y 5 rfl (by kernel_rfl) (by kernel_rfl) rfl (y_assign rfl) ?_
        refine ga_done (by kernel_rfl) ?_
        refine gq_then' ?_
        refine gc_seq ?_
        refine gc_seq ?_
        refine gc_region ?_
        refine gl_y rfl (y_move rfl) ?_
        refine gl_y rfl (y_seql rfl rfl) ?_
        refine gl_nil ?_
        refine gq_then' ?_
        refine gc_if rfl (fun h15 => ?_) (fun h15 => ?_)
        · have g15 := h15
          try (replace g15 := of_decide_eq_true g15)
          first
          | exact absurd h15 (by decide)
          | (exfalso; omega)
          | skip
            refine gc_seq ?_
            refine gc_region ?_
            refine gl_y rfl (y_move rfl) ?_
            refine gl_y rfl (y_move rfl) ?_
            refine gl_y rfl (y_assign rfl) ?_
            refine gl_y rfl (y_assign rfl) ?_
            refine gl_nil ?_
            refine gq_then' ?_
            refine gc_ret ?_
            refine gq_pass_ret ?_
            refine gq_in_ret ?_
            refine gq_pass_ret ?_
            refine gq_in_ret ?_
            refine gq_r2 rfl rfl rfl (perm_one (i := 1) rfl) ?_
            have hN := hD.fin g15
            exact ⟨_, by rw [hN.2], by rw [hN.1]⟩
        · have g15 := h15
          try (replace g15 := of_decide_eq_false g15)
          first
          | exact absurd h15 (by decide)
          | (exfalso; omega)
          | skip
            refine gc_skip ?_
            refine gq_then' ?_
            refine gc_seq ?_
            refine gc_region ?_
            refine gl_y rfl (y_move rfl) ?_
            refine gl_y rfl (y_move rfl) ?_
            refine gl_ef (ef_buildSlice Try.underlying76 sz_9 zr_9 rfl rfl rfl (cs := [_]) (zl := [_]) rfl rfl rfl rfl) ?_
            rintro _ _ _ ⟨b20, rfl, rfl, rfl⟩
            refine gl_ef (ef_append Try.underlying76 tf_9 rfl (i := 1) rfl rfl (src_all (blk_own (i := 2) rfl)) rfl rfl (by first | omega | (simp only [List.length_append, List.length_cons, List.length_nil, List.length_take, List.length_drop, List.length_map, List.length_replicate, List.length_set, u8s_length, fx_length, fixed_length, tabTo_len, tabV_len]; omega)) (by first | omega | (simp only [List.length_append, List.length_cons, List.length_nil, List.length_take, List.length_drop, List.length_map, List.length_replicate, List.length_set, u8s_length, fx_length, fixed_length, tabTo_len, tabV_len]; omega)) rfl) ?_
            rintro _ _ _ ⟨v21, rfl, rfl, rfl⟩
            refine gl_y rfl (y_assign rfl) ?_
            refine gl_nilslice 9 1 ?_
            refine gl_nil ?_
            refine gq_then' ?_
            refine gc_region ?_
            refine gl_y rfl (y_move rfl) ?_
            refine gl_y rfl (y_move rfl) ?_
            refine gl_y rfl (y_slen Try.underlying9 rfl) ?_
            first | refine gl_y rfl (y_add rfl rfl (wr_i64 (by omega) (by omega))) ?_ | refine gl_y rfl (y_add rfl rfl rfl) ?_
            have hD3 := hD3 g15
            first | refine gl_y rfl (y_add rfl rfl (wr_i64 (by omega) (by omega))) ?_ | refine gl_y rfl (y_add rfl rfl rfl) ?_
            refine gl_y rfl (y_assign rfl) ?_
            refine gl_nil ?_
            refine gq_in_normal ?_
            have hN := hD.next g15
            rw [List.drop_drop] at hN
            refine gq_M (congrArg (fun e => _ :: e :: _) (osl_snocS _ v21 o (oneF (b.drop a)))) ?_
            refine gq_roundW (x := (⟨o, a, v⟩ : List By × Nat × Value)) (o ++ [oneF (b.drop a)], a + (6 + (oneF (b.drop a)).length), v21) ?_ ?_ (perm_two (i := 0) (j := 0) rfl rfl) rfl (by repeat (first | exact Ext.refl | refine Ext.cons rfl ?_)) ?_
            · exact ⟨hN, by (show (o ++ [oneF (b.drop a)]).length ≤ a + (6 + (oneF (b.drop a)).length)); simp; omega⟩
            · have := hD3; (show (b.drop (a + (6 + (oneF (b.drop a)).length))).length < (b.drop a).length); simp only [List.length_drop]; omega
            · exact ⟨rfl, rfl, trivial⟩
theorem log_all {I : PH} (d : Nat) (F : By) (k n : Nat) (hF : F.length = 64 * n) (hn : n ≤ 4096) (hkm : k ≤ 1099511627776) : Ctr Try.prog 129 [.pointer (some ⟨d, 0, none⟩)] I [dsk d F k] (fun v _ M' => v = .tuple #[strV F, .int .i64 0] ∧ M' = [dsk d F k]) := by
  refine ctr_of Try.func129 rfl (n := 26) rfl rfl ?_
  intro G R
  simp only [argL]
  refine gc_seq ?_
  refine gc_region ?_
  refine gl_y rfl (y_assign rfl) ?_
  refine gl_y rfl (y_assign rfl) ?_
  refine gl_nil ?_
  refine gq_then' ?_
  refine gc_seq ?_
  refine gc_region ?_
  refine gl_ef (ef_alloc zr_200 (l := [_, _]) rfl rfl) ?_
  rintro _ _ _ ⟨b4, rfl, rfl, rfl⟩
  refine gl_nilslice 5 1 ?_
  refine gl_hid (N := bldN 200 5 b4 []) (.slice none 0 0, false) (perm_two (i := 1) (j := 1) rfl rfl) ?_
  refine gl_nil ?_
  refine gq_then' ?_
  refine gc_seq ?_
  refine gc_seq ?_
  refine gc_region ?_
  refine gl_y rfl (y_move rfl) ?_
  refine gl_ef (ef_callq en_53 rfl (disk_Sectors _ _ _ n hF) (perm_one (i := 1) rfl) (fun hl I1 h1 h2 _ => dk_lend h1 h2) rfl) ?_
  rintro _ _ _ ⟨v9, rfl, rfl, rfl, rfl⟩
  refine gl_y rfl (y_move rfl) ?_
  refine gl_nil ?_
  refine gq_then' ?_
  refine gc_block ?_
  refine gc_loopW (α := Nat) [11, 12, 5, 14, 15, 16, 13, 17, 18, 6, 7, 19, 20, 21, 2, 3, 22, 23, 24, 10] (fun (i : Nat) => [(10, .int .i64 (i : Int))]) (fun (i : Nat) => [dsk d F k, bld1 b4 (F.take (64 * i))]) (fun (i : Nat) => i ≤ n) (fun (i : Nat) => n - i) 0 ?_ (perm_two (i := 1) (j := 0) rfl rfl) ?_ ?_
  · exact Nat.zero_le _
  · exact ⟨rfl, trivial⟩
  · rintro i hi
    refine gc_seq ?_
    refine gc_region ?_
    refine gl_y rfl (y_lss rfl rfl) ?_
    refine gl_nil ?_
    refine gq_then' ?_
    refine gc_seq ?_
    refine gc_if rfl (fun h11 => ?_) (fun h11 => ?_)
    · have g11 := h11
      try (replace g11 := of_decide_eq_true g11)
      first
      | exact absurd h11 (by decide)
      | (exfalso; omega)
      | skip
        refine gc_skip ?_
        refine gq_then' ?_
        refine gc_seq ?_
        refine gc_block ?_
        refine gc_seq ?_
        refine gc_region ?_
        refine gl_y rfl (y_move rfl) ?_
        refine gl_y rfl (y_assign rfl) ?_
        refine gl_nil ?_
        refine gq_then' ?_
        refine gc_seq ?_
        refine gc_region ?_
        refine gl_y rfl (y_move rfl) ?_
        refine gl_y rfl (y_move rfl) ?_
        have hi2 : i < n := by omega
        refine gl_ef (ef_callq en_128 rfl (disk_ReadN _ _ _ n i hF hkm (by first | omega | (simp only [List.length_append, List.length_cons, List.length_nil, List.length_take, List.length_drop, List.length_map, List.length_replicate, List.length_set, u8s_length, fx_length, fixed_length, tabTo_len, tabV_len]; omega))) (perm_one (i := 0) rfl) (fun hl I1 h1 h2 _ => dk_lend h1 h2) rfl) ?_
        rintro _ _ _ ⟨v16, rfl, rfl, rfl, rfl⟩
        refine gl_y rfl (y_move rfl) ?_
        refine gl_y rfl (y_extract rfl rfl) ?_
        refine gl_y rfl (y_extract rfl rfl) ?_
        refine gl_y rfl (y_assign rfl) ?_
        refine gl_y rfl (y_assign rfl) ?_
        refine gl_nil ?_
        refine gq_then' ?_
        refine gc_seq ?_
        refine gc_seq ?_
        refine gc_region ?_
        refine gl_y rfl (y_move rfl) ?_
        refine gl_y rfl (y_neq rfl rfl) ?_
        refine gl_nil ?_
        refine gq_then' ?_
        refine gc_f rfl rfl ?_
        refine gc_skip ?_
        refine gq_then' ?_
        refine gc_region ?_
        refine gl_y rfl (y_move rfl) ?_
        refine gl_ef (ef_callm en_119 rfl (bld_Write _ _ _ (by simp only [List.length_take, sec_len hF hi2]; omega)) (perm_one (i := 1) rfl) rfl) ?_
        rintro _ _ _ ⟨v23, Mc23, ⟨rfl, rfl⟩, rfl, rfl, rfl⟩
        refine gl_nil ?_
        refine gq_in_normal ?_
        refine gq_then' ?_
        refine gc_region ?_
        first | refine gl_y rfl (y_add rfl rfl (wr_i64 (by omega) (by omega))) ?_ | refine gl_y rfl (y_add rfl rfl rfl) ?_
        refine gl_y rfl (y_move rfl) ?_
        refine gl_nil ?_
        refine gq_M (congrArg (fun l => bld1 b4 l :: _) (sec_take F i)) ?_
        refine gq_roundW (i + 1) ?_ ?_ (perm_two (i := 1) (j := 0) rfl rfl) rfl (by repeat (first | exact Ext.refl | refine Ext.cons rfl ?_)) ?_
        · omega
        · (show n - (i + 1) < n - i); omega
        · exact ⟨rfl, trivial⟩
    · have g11 := h11
      try (replace g11 := of_decide_eq_false g11)
      first
      | exact absurd h11 (by decide)
      | (exfalso; omega)
      | skip
        refine gc_exit ?_
        refine gq_pass_exit ?_
        refine gq_pass_exit ?_
        refine gq_in_exit ?_
        refine gq_then' ?_
        refine gc_seq ?_
        obtain rfl : i = n := by omega
        rw [List.take_of_length_le (by omega)]
        refine gc_region ?_
        refine gl_ef (ef_callm en_124 rfl (bld_String _ _ (by first | omega | (simp only [List.length_append, List.length_cons, List.length_nil, List.length_take, List.length_drop, List.length_map, List.length_replicate, List.length_set, u8s_length, fx_length, fixed_length, tabTo_len, tabV_len]; omega))) (perm_one (i := 1) rfl) rfl) ?_
        rintro _ _ _ ⟨v25, Mc25, ⟨rfl, rfl⟩, rfl, rfl, rfl⟩
        refine gl_y rfl (y_assign rfl) ?_
        refine gl_y rfl (y_assign rfl) ?_
        refine gl_nil ?_
        refine gq_then' ?_
        refine gc_ret ?_
        refine gq_r2 rfl rfl rfl perm_same ?_
        exact ⟨rfl, rfl⟩
theorem log_wipe {I : PH} (d : Nat) (F : By) (k n i f : Nat) (hF : F.length = 64 * n) (hi : i < n) (hf : f ≤ 64) (hkm : k < 1099511627776) : Ctr Try.prog 130 [.pointer (some ⟨d, 0, none⟩), .int .i64 (i : Int), .int .i64 (f : Int)] I [dsk d F k] (fun v _ M' => v = .int .i64 0 ∧ M' = [dsk d (ovl F (64 * i) ((sec F i).take f ++ zs (64 - f))) (k + 1)]) := by
  have hs := sec_len hF hi
  have hz := zs_len (64 - f)
  refine ctr_of Try.func130 rfl (n := 33) rfl rfl ?_
  intro G R
  simp only [argL]
  refine gc_seq ?_
  refine gc_region ?_
  refine gl_y rfl (y_assign rfl) ?_
  refine gl_nil ?_
  refine gq_then' ?_
  refine gc_seq ?_
  refine gc_region ?_
  refine gl_y rfl (y_move rfl) ?_
  refine gl_y rfl (y_move rfl) ?_
  refine gl_ef (ef_callq en_128 rfl (disk_ReadN _ _ _ n i hF (by first | omega | (simp only [List.length_append, List.length_cons, List.length_nil, List.length_take, List.length_drop, List.length_map, List.length_replicate, List.length_set, u8s_length, fx_length, fixed_length, tabTo_len, tabV_len]; omega)) hi) perm_same (fun hl I1 h1 h2 _ => dk_lend h1 h2) rfl) ?_
  rintro _ _ _ ⟨v13, rfl, rfl, rfl, rfl⟩
  refine gl_y rfl (y_move rfl) ?_
  refine gl_y rfl (y_extract rfl rfl) ?_
  refine gl_y rfl (y_extract rfl rfl) ?_
  refine gl_y rfl (y_assign rfl) ?_
  refine gl_y rfl (y_assign rfl) ?_
  refine gl_nil ?_
  refine gq_then' ?_
  refine gc_seq ?_
  refine gc_seq ?_
  refine gc_region ?_
  refine gl_y rfl (y_move rfl) ?_
  refine gl_y rfl (y_neq rfl rfl) ?_
  refine gl_nil ?_
  refine gq_then' ?_
  refine gc_f rfl rfl ?_
  refine gc_skip ?_
  refine gq_then' ?_
  refine gc_seq ?_
  refine gc_region_draw (N := 8) [] rfl follows_mixed (by repeat (first | exact panicOk_body | refine panicOk_then ?_ | refine panicOk_in ?_)) (by kernel_rfl) ?_ ?_
  · trivial
  · skip
    refine ga_y 0 rfl (by kernel_rfl) (by kernel_rfl) rfl (y_move rfl) ?_
    refine ga_y 1 rfl (by kernel_rfl) (by kernel_rfl) rfl (y_move rfl) ?_
    refine ga_y 2 rfl (by kernel_rfl) (by kernel_rfl) rfl (y_sslice_h Try.underlying9 rfl rfl (by omega) (by first | omega | (simp only [List.length_append, List.length_cons, List.length_nil, List.length_take, List.length_drop, List.length_map, List.length_replicate, List.length_set, u8s_length, fx_length, fixed_length, tabTo_len, tabV_len]; omega))) ?_
    refine ga_y 3 rfl (by kernel_rfl) (by kernel_rfl) rfl (y_move rfl) ?_
    first | refine ga_y 4 rfl (by kernel_rfl) (by kernel_rfl) rfl (y_sub rfl rfl (wr_i64 (by omega) (by omega))) ?_ | refine ga_y 4 rfl (by kernel_rfl) (by kernel_rfl) rfl (y_sub rfl rfl rfl) ?_
    refine ga_all1 (i := 5) (by kernel_rfl) ?_
    · skip
      refine gb_ef rfl (ef_callp en_206 rfl (p_RepeatS f hf) rfl) ?_
      rintro _ _ _ ⟨v24, rfl, rfl, rfl, rfl⟩
      refine ⟨sat_S (bl := []) trivial, ?_⟩
      refine ga_y 6 rfl (by kernel_rfl) (by kernel_rfl) rfl (y_sadd rfl rfl (by first | omega | (simp only [List.length_append, List.length_cons, List.length_nil, List.length_take, List.length_drop, List.length_map, List.length_replicate, List.length_set, u8s_length, fx_length, fixed_length, tabTo_len, tabV_len]; omega))) ?_
      refine ga_y 7 rfl (by kernel_rfl) (by kernel_rfl) rfl (y_assign rfl) ?_
      refine ga_done (by kernel_rfl) ?_
      refine gq_then' ?_
      refine gc_seq ?_
      refine gc_seq ?_
      refine gc_region ?_
      refine gl_y rfl (y_move rfl) ?_
      refine gl_y rfl (y_move rfl) ?_
      refine gl_y rfl (y_seql rfl rfl) ?_
      refine gl_nil ?_
      refine gq_then' ?_
      refine gc_if rfl (fun h28 => ?_) (fun h28 => ?_)
      · have g28 := h28
        try (replace g28 := of_decide_eq_true g28)
        first
        | exact absurd h28 (by decide)
        | (exfalso; omega)
        | skip
          refine gc_seq ?_
          refine gc_region ?_
          refine gl_y rfl (y_assign rfl) ?_
          refine gl_nil ?_
          refine gq_then' ?_
          refine gc_ret ?_
          refine gq_pass_ret ?_
          refine gq_weak 0 rfl (dsk_weak (F' := ovl F (64 * i) ((sec F i).take f ++ zs (64 - f))) (k' := k + 1) (by rw [show (sec F i).take f ++ zs (64 - f) = sec F i from g28]; exact (ovl_self hF hi).symm) (Nat.le_succ k)) ?_
          refine gq_r1 rfl rfl perm_same ?_
          exact ⟨rfl, rfl⟩
      · have g28 := h28
        try (replace g28 := of_decide_eq_false g28)
        first
        | exact absurd h28 (by decide)
        | (exfalso; omega)
        | skip
          refine gc_skip ?_
          refine gq_then' ?_
          refine gc_seq ?_
          refine gc_region ?_
          refine gl_y rfl (y_move rfl) ?_
          refine gl_y rfl (y_move rfl) ?_
          refine gl_y rfl (y_move rfl) ?_
          refine gl_ef (ef_callm en_54 rfl (disk_WriteN _ _ _ n i _ hF hi (by simp only [List.length_append, List.length_take, hz]; omega) (by first | omega | (simp only [List.length_append, List.length_cons, List.length_nil, List.length_take, List.length_drop, List.length_map, List.length_replicate, List.length_set, u8s_length, fx_length, fixed_length, tabTo_len, tabV_len]; omega))) perm_same rfl) ?_
          rintro _ _ _ ⟨v32, Mc32, ⟨rfl, rfl⟩, rfl, rfl, rfl⟩
          refine gl_y rfl (y_assign rfl) ?_
          refine gl_nil ?_
          refine gq_then' ?_
          refine gc_ret ?_
          refine gq_r1 rfl rfl perm_same ?_
          exact ⟨rfl, rfl⟩
theorem log_Open {I : PH} (d : Nat) (F : By) (k n : Nat) (hF : F.length = 64 * n) (hn : n ≤ 4096) (hkm : k ≤ 549755813888) : Ctr Try.prog 44 [.agg tabV.toArray, .pointer (some ⟨d, 0, none⟩)] I [dsk d F k] (fun v _ M' => ∃ l A, v = .tuple #[.pointer (some ⟨l, 0, none⟩), A, .int .i64 0] ∧ M' = [logE l d (endF F : Nat), dsk d (F.take (endF F) ++ zs (64 * n - endF F)) 0, osl 9 1 A (standsF F).length ((standsF F).map strV)]) := by
  have he := end_le F
  rw [hF] at he
  refine ctr_of Try.func44 rfl (n := 68) rfl rfl ?_
  intro G R
  simp only [argL]
  refine gc_seq ?_
  refine gc_region ?_
  refine gl_ef (ef_box rfl (l := _) rfl rfl) ?_
  rintro _ _ _ ⟨b2, rfl, rfl, rfl⟩
  refine gl_y rfl (y_assign rfl) ?_
  refine gl_y rfl (y_assign rfl) ?_
  refine gl_y rfl (y_assign rfl) ?_
  refine gl_nil ?_
  refine gq_then' ?_
  refine gc_seq ?_
  refine gc_seq ?_
  refine gc_region ?_
  refine gl_y rfl (y_move rfl) ?_
  refine gl_ef (ef_callq en_128 rfl (disk_ReadM _ _ _ n hF (by first | omega | (simp only [List.length_append, List.length_cons, List.length_nil, List.length_take, List.length_drop, List.length_map, List.length_replicate, List.length_set, u8s_length, fx_length, fixed_length, tabTo_len, tabV_len]; omega))) (perm_one (i := 0) rfl) (fun hl I1 h1 h2 _ => dk_lend h1 h2) rfl) ?_
  rintro _ _ _ ⟨v18, rfl, rfl, rfl, rfl⟩
  refine gl_y rfl (y_move rfl) ?_
  refine gl_y rfl (y_extract rfl rfl) ?_
  refine gl_y rfl (y_extract rfl rfl) ?_
  refine gl_y rfl (y_assign rfl) ?_
  refine gl_y rfl (y_assign rfl) ?_
  refine gl_nil ?_
  refine gq_then' ?_
  refine gc_seq ?_
  refine gc_region ?_
  refine gl_y rfl (y_move rfl) ?_
  refine gl_y rfl (y_eql rfl rfl) ?_
  refine gl_nil ?_
  refine gq_then' ?_
  refine gc_f rfl rfl ?_
  refine gc_skip ?_
  refine gq_then' ?_
  refine gc_seq ?_
  refine gc_region ?_
  refine gl_y rfl (y_move rfl) ?_
  refine gl_ef (ef_callm en_129 rfl (log_all _ _ _ n hF hn (by first | omega | (simp only [List.length_append, List.length_cons, List.length_nil, List.length_take, List.length_drop, List.length_map, List.length_replicate, List.length_set, u8s_length, fx_length, fixed_length, tabTo_len, tabV_len]; omega))) (perm_one (i := 0) rfl) rfl) ?_
  rintro _ _ _ ⟨v26, Mc26, ⟨rfl, rfl⟩, rfl, rfl, rfl⟩
  refine gl_y rfl (y_move rfl) ?_
  refine gl_y rfl (y_extract rfl rfl) ?_
  refine gl_y rfl (y_extract rfl rfl) ?_
  refine gl_y rfl (y_assign rfl) ?_
  refine gl_y rfl (y_assign rfl) ?_
  refine gl_nil ?_
  refine gq_then' ?_
  refine gc_seq ?_
  refine gc_seq ?_
  refine gc_region ?_
  refine gl_y rfl (y_move rfl) ?_
  refine gl_y rfl (y_neq rfl rfl) ?_
  refine gl_nil ?_
  refine gq_then' ?_
  refine gc_f rfl rfl ?_
  refine gc_skip ?_
  refine gq_then' ?_
  refine gc_seq ?_
  refine gc_region ?_
  refine gl_y rfl (y_loadA ag_63 sz_63 rfl (blk_own (i := 1) rfl) (vs := tabV) tabV_len (at_all tabV)) ?_
  refine gl_y rfl (y_move rfl) ?_
  refine gl_ef (ef_callm en_52 rfl (log_Stands F (by first | omega | (simp only [List.length_append, List.length_cons, List.length_nil, List.length_take, List.length_drop, List.length_map, List.length_replicate, List.length_set, u8s_length, fx_length, fixed_length, tabTo_len, tabV_len]; omega))) perm_all rfl) ?_
  rintro _ _ _ ⟨v35, Mc35, ⟨A35, rfl, rfl⟩, rfl, rfl, rfl⟩
  refine gl_y rfl (y_move rfl) ?_
  refine gl_y rfl (y_extract rfl rfl) ?_
  refine gl_y rfl (y_extract rfl rfl) ?_
  refine gl_y rfl (y_assign rfl) ?_
  refine gl_y rfl (y_assign rfl) ?_
  refine gl_nil ?_
  refine gq_then' ?_
  refine gc_seq ?_
  refine gc_seq ?_
  refine gc_region ?_
  refine gl_y rfl (y_move rfl) ?_
  refine gl_y rfl (y_quo rfl rfl (by omega) (quo64 _ (by omega))) ?_
  refine gl_y rfl (y_assign rfl) ?_
  refine gl_nil ?_
  refine gq_then' ?_
  refine gc_block ?_
  refine gc_weak 1 rfl (dsk_weak (F' := wiped F (endF F) (endF F / 64)) (k' := k + endF F / 64) wiped_first.symm (Nat.le_add_right _ _)) ?_
  refine gc_loopW (α := Nat) [40, 41, 42, 43, 46, 47, 48, 49, 50, 51, 52, 53, 14, 54, 55, 56, 4, 5, 6, 44, 45, 13] (fun (i : Nat) => [(13, .int .i64 (i : Int))]) (fun (i : Nat) => [dsk d (wiped F (endF F) i) (k + i), cl b2 63 tabV, osl 9 1 A35 (standsF F).length ((standsF F).map strV)]) (fun (i : Nat) => endF F / 64 ≤ i ∧ i ≤ n) (fun (i : Nat) => n - i) (endF F / 64) ?_ (perm_three (i := 1) (j := 1) (k := 0) rfl rfl rfl) ?_ ?_
  · exact ⟨Nat.le_refl _, by omega⟩
  · exact ⟨rfl, trivial⟩
  · rintro i ⟨hi0, hi⟩
    refine gc_seq ?_
    refine gc_seq ?_
    refine gc_region ?_
    refine gl_y rfl (y_move rfl) ?_
    refine gl_y rfl (y_move rfl) ?_
    refine gl_ef (ef_callq en_53 rfl (disk_Sectors _ _ _ n (wiped_len hF he hi)) (perm_one (i := 0) rfl) (fun hl I1 h1 h2 _ => dk_lend h1 h2) rfl) ?_
    rintro _ _ _ ⟨v42, rfl, rfl, rfl, rfl⟩
    refine gl_y rfl (y_lss rfl rfl) ?_
    refine gl_nil ?_
    refine gq_then' ?_
    refine gc_if rfl (fun h43 => ?_) (fun h43 => ?_)
    · have g43 := h43
      try (replace g43 := of_decide_eq_true g43)
      first
      | exact absurd h43 (by decide)
      | (exfalso; omega)
      | skip
        refine gc_skip ?_
        refine gq_then' ?_
        refine gc_seq ?_
        refine gc_block ?_
        refine gc_seq ?_
        refine gc_region ?_
        refine gl_y rfl (y_move rfl) ?_
        refine gl_y rfl (y_move rfl) ?_
        refine gl_y rfl (y_move rfl) ?_
        refine gl_y rfl (y_move rfl) ?_
        first | refine gl_y rfl (y_mul rfl rfl (wr_i64 (by omega) (by omega))) ?_ | refine gl_y rfl (y_mul rfl rfl rfl) ?_
        first | refine gl_y rfl (y_sub rfl rfl (wr_i64 (by omega) (by omega))) ?_ | refine gl_y rfl (y_sub rfl rfl rfl) ?_
        refine gl_y rfl (y_max rfl rfl (show max ((endF F : Int) - (i : Int) * 64) 0 = ((endF F - 64 * i : Nat) : Int) by omega)) ?_
        refine gl_ef (ef_callm en_130 rfl (log_wipe _ _ _ n i (endF F - 64 * i) (wiped_len hF he hi) (by first | omega | (simp only [List.length_append, List.length_cons, List.length_nil, List.length_take, List.length_drop, List.length_map, List.length_replicate, List.length_set, u8s_length, fx_length, fixed_length, tabTo_len, tabV_len]; omega)) (by first | omega | (simp only [List.length_append, List.length_cons, List.length_nil, List.length_take, List.length_drop, List.length_map, List.length_replicate, List.length_set, u8s_length, fx_length, fixed_length, tabTo_len, tabV_len]; omega)) (by first | omega | (simp only [List.length_append, List.length_cons, List.length_nil, List.length_take, List.length_drop, List.length_map, List.length_replicate, List.length_set, u8s_length, fx_length, fixed_length, tabTo_len, tabV_len]; omega))) (perm_one (i := 0) rfl) rfl) ?_
        rintro _ _ _ ⟨v53, Mc53, ⟨rfl, rfl⟩, rfl, rfl, rfl⟩
        refine gl_y rfl (y_assign rfl) ?_
        refine gl_nil ?_
        refine gq_then' ?_
        refine gc_seq ?_
        refine gc_region ?_
        refine gl_y rfl (y_move rfl) ?_
        refine gl_y rfl (y_neq rfl rfl) ?_
        refine gl_nil ?_
        refine gq_then' ?_
        refine gc_f rfl rfl ?_
        refine gc_skip ?_
        refine gq_in_normal ?_
        refine gq_then' ?_
        refine gc_region ?_
        refine gl_y rfl (y_move rfl) ?_
        first | refine gl_y rfl (y_add rfl rfl (wr_i64 (by omega) (by omega))) ?_ | refine gl_y rfl (y_add rfl rfl rfl) ?_
        refine gl_y rfl (y_assign rfl) ?_
        refine gl_nil ?_
        refine gq_M (congrArg (fun x => dsk d x (k + i + 1) :: _) (wiped_step hF he (show i < n by omega) hi0 rfl)) ?_
        refine gq_roundW (i + 1) ?_ ?_ perm_same rfl (by repeat (first | exact Ext.refl | refine Ext.cons rfl ?_)) ?_
        · exact ⟨by omega, by omega⟩
        · (show n - (i + 1) < n - i); omega
        · exact ⟨rfl, trivial⟩
    · have g43 := h43
      try (replace g43 := of_decide_eq_false g43)
      first
      | exact absurd h43 (by decide)
      | (exfalso; omega)
      | skip
        refine gc_exit ?_
        refine gq_pass_exit ?_
        refine gq_pass_exit ?_
        refine gq_in_exit ?_
        refine gq_then' ?_
        refine gc_seq ?_
        refine gc_seq ?_
        obtain rfl : i = n := by omega
        rw [wiped_last hF he]
        refine gc_region ?_
        refine gl_y rfl (y_move rfl) ?_
        refine gl_ef (ef_callm en_131 rfl (disk_Sync _ _ _ (by first | omega | (simp only [List.length_append, List.length_cons, List.length_nil, List.length_take, List.length_drop, List.length_map, List.length_replicate, List.length_set, u8s_length, fx_length, fixed_length, tabTo_len, tabV_len]; omega))) (perm_one (i := 0) rfl) rfl) ?_
        rintro _ _ _ ⟨v58, Mc58, ⟨rfl, rfl⟩, rfl, rfl, rfl⟩
        refine gl_y rfl (y_assign rfl) ?_
        refine gl_nil ?_
        refine gq_then' ?_
        refine gc_seq ?_
        refine gc_region ?_
        refine gl_y rfl (y_move rfl) ?_
        refine gl_y rfl (y_neq rfl rfl) ?_
        refine gl_nil ?_
        refine gq_then' ?_
        refine gc_f rfl rfl ?_
        refine gc_skip ?_
        refine gq_then' ?_
        refine gc_seq ?_
        refine gc_region ?_
        refine gl_y rfl (y_loadA ag_63 sz_63 rfl (blk_own (i := 1) rfl) (vs := tabV) tabV_len (at_all tabV)) ?_
        refine gl_y rfl (y_move rfl) ?_
        refine gl_y rfl (y_move rfl) ?_
        refine gl_y rfl (y_build pl_218 zr_218 rfl (cs := logC d (endF F : Nat)) (log_fill d (endF F : Nat))) ?_
        refine gl_ef (ef_box rfl (l := _) rfl rfl) ?_
        rintro _ _ _ ⟨b66, rfl, rfl, rfl⟩
        refine gl_y rfl (y_move rfl) ?_
        refine gl_y rfl (y_assign rfl) ?_
        refine gl_y rfl (y_assign rfl) ?_
        refine gl_y rfl (y_assign rfl) ?_
        refine gl_nil ?_
        refine gq_then' ?_
        refine gc_ret ?_
        refine gq_r3 rfl rfl rfl rfl (perm_three (i := 3) (j := 0) (k := 1) rfl rfl rfl) ?_
        exact ⟨_, _, rfl, rfl⟩
theorem log_Append {I : PH} (l d : Nat) (F : By) (k n e : Nat) (r : By) (hF : F.length = 64 * n) (hn : n ≤ 4096) (he : e ≤ 64 * n) (hkm : k ≤ 549755813888) (hr : r.length ≤ 1048576) : Ctr Try.prog 46 [.pointer (some ⟨l, 0, none⟩), .string (bs r)] I [logE l d (e : Nat), dsk d F k] (fun v _ M' => v = .int .i64 (appR n e r) ∧ M' = [logE l d (appE n e r : Nat), dsk d (appF n F e r) (k + n)]) := by
  have hm := mk_len r
  refine ctr_of Try.func46 rfl (n := 119) rfl rfl ?_
  intro G R
  simp only [argL]
  refine gc_seq ?_
  refine gc_region ?_
  refine gl_y rfl (y_assign rfl) ?_
  refine gl_nil ?_
  refine gq_then' ?_
  refine gc_seq ?_
  refine gc_block ?_
  refine gc_seq ?_
  refine gc_region ?_
  refine gl_y rfl (y_move rfl) ?_
  refine gl_y rfl (y_nilck rfl) ?_
  refine gl_y rfl (y_faddr fo_218_3 rfl) ?_
  refine gl_y rfl (y_load ag_4 rfl (blk_own (i := 0) rfl) (tab_get (l := [_, _, _]) 2 rfl)) ?_
  refine gl_y rfl (y_assign rfl) ?_
  refine gl_nil ?_
  refine gq_then' ?_
  refine gc_f rfl rfl ?_
  refine gc_seq ?_
  refine gc_region ?_
  refine gl_y rfl (y_move rfl) ?_
  refine gl_y rfl (y_slen Try.underlying9 rfl) ?_
  refine gl_ef (ef_callp en_132 rfl (log_fits _) rfl) ?_
  rintro _ _ _ ⟨v21, rfl, rfl, rfl, rfl⟩
  refine gl_y rfl (y_not rfl) ?_
  refine gl_y rfl (y_assign rfl) ?_
  refine gl_nil ?_
  refine gq_then' ?_
  refine gc_if rfl (fun h18 => ?_) (fun h18 => ?_)
  · have g18 := h18
    try (replace g18 := of_decide_eq_true g18)
    try (replace g18 := not_t g18)
    first
    | exact absurd h18 (by decide)
    | (exfalso; omega)
    | skip
      refine gc_seq ?_
      refine gc_region ?_
      refine gl_y rfl (y_assign rfl) ?_
      refine gl_nil ?_
      refine gq_then' ?_
      refine gc_ret ?_
      refine gq_in_ret ?_
      refine gq_pass_ret ?_
      have hA := app_long (n := n) (e := e) (F := F) (show r.length < 1 ∨ 4000 < r.length by omega)
      refine gq_weak 1 rfl (dsk_weak (F' := F) (k' := k + n) rfl (Nat.le_add_right _ _)) ?_
      refine gq_r1 rfl rfl perm_same ?_
      rw [hA.1, hA.2.1, hA.2.2]; exact ⟨rfl, rfl⟩
  · have g18 := h18
    try (replace g18 := of_decide_eq_false g18)
    try (replace g18 := not_f g18)
    first
    | exact absurd h18 (by decide)
    | (exfalso; omega)
    | skip
      refine gc_seq ?_
      refine gc_region_draw (N := 16) [(l, (logC d (e : Nat)))] rfl follows_mixed (by repeat (first | exact panicOk_body | refine panicOk_then ?_ | refine panicOk_in ?_)) (by kernel_rfl) ?_ ?_
      · exact ⟨blk_own (i := 0) rfl, trivial⟩
      · skip
        refine ga_y 0 rfl (by kernel_rfl) (by kernel_rfl) rfl (y_move rfl) ?_
        refine ga_y 1 rfl (by kernel_rfl) (by kernel_rfl) rfl (y_slen Try.underlying9 rfl) ?_
        first | refine ga_y 2 rfl (by kernel_rfl) (by kernel_rfl) rfl (y_add rfl rfl (wr_i64 (by omega) (by omega))) ?_ | refine ga_y 2 rfl (by kernel_rfl) (by kernel_rfl) rfl (y_add rfl rfl rfl) ?_
        refine ga_y 3 rfl (by kernel_rfl) (by kernel_rfl) rfl (y_move rfl) ?_
        refine ga_y 4 rfl (by kernel_rfl) (by kernel_rfl) rfl (y_nilck rfl) ?_
        refine ga_y 5 rfl (by kernel_rfl) (by kernel_rfl) rfl (y_faddr fo_218_1 rfl) ?_
        refine ga_y 6 rfl (by kernel_rfl) (by kernel_rfl) rfl (y_load ag_78 rfl (blk_S (k := 0) rfl) (tab_get (l := [_, _, _]) 0 rfl)) ?_
        refine ga_y 9 rfl (by kernel_rfl) (by kernel_rfl) rfl (y_move rfl) ?_
        refine ga_y 10 rfl (by kernel_rfl) (by kernel_rfl) rfl (y_nilck rfl) ?_
        refine ga_y 11 rfl (by kernel_rfl) (by kernel_rfl) rfl (y_faddr fo_218_2 rfl) ?_
        refine ga_y 12 rfl (by kernel_rfl) (by kernel_rfl) rfl (y_load ag_3 rfl (blk_S (k := 0) rfl) (tab_get (l := [_, _, _]) 1 rfl)) ?_
        refine ga_all1 (i := 7) (by kernel_rfl) ?_
        · skip
          refine gb_ef rfl (ef_callq en_53 rfl (disk_Sectors _ _ _ n hF) (perm_one (i := 1) rfl) (fun hl I1 h1 h2 _ => dk_lend h1 h2) rfl) ?_
          rintro _ _ _ ⟨v31, rfl, rfl, rfl, rfl⟩
          refine ⟨sat_S ⟨blk_own (i := 0) rfl, trivial⟩, ?_⟩
          first | refine ga_y 8 rfl (by kernel_rfl) (by kernel_rfl) rfl (y_mul rfl rfl (wr_i64 (by omega) (by omega))) ?_ | refine ga_y 8 rfl (by kernel_rfl) (by kernel_rfl) rfl (y_mul rfl rfl rfl) ?_
          first | refine ga_y 13 rfl (by kernel_rfl) (by kernel_rfl) rfl (y_sub rfl rfl (wr_i64 (by omega) (by omega))) ?_ | refine ga_y 13 rfl (by kernel_rfl) (by kernel_rfl) rfl (y_sub rfl rfl rfl) ?_
          refine ga_y 14 rfl (by kernel_rfl) (by kernel_rfl) rfl (y_gtr rfl rfl) ?_
          refine ga_y 15 rfl (by kernel_rfl) (by kernel_rfl) rfl (y_assign rfl) ?_
          refine ga_done (by kernel_rfl) ?_
          refine gq_then' ?_
          refine gc_if rfl (fun h23 => ?_) (fun h23 => ?_)
          · have g23 := h23
            try (replace g23 := of_decide_eq_true g23)
            try (replace g23 := not_t g23)
            first
            | exact absurd h23 (by decide)
            | (exfalso; omega)
            | skip
              refine gc_seq ?_
              refine gc_region ?_
              refine gl_y rfl (y_assign rfl) ?_
              refine gl_nil ?_
              refine gq_then' ?_
              refine gc_ret ?_
              refine gq_in_ret ?_
              refine gq_pass_ret ?_
              have hA := app_full (n := n) (e := e) (F := F) (show ¬ (r.length < 1 ∨ 4000 < r.length) by omega) (by omega)
              refine gq_weak 1 rfl (dsk_weak (F' := F) (k' := k + n) rfl (Nat.le_add_right _ _)) ?_
              refine gq_r1 rfl rfl perm_same ?_
              rw [hA.1, hA.2.1, hA.2.2]; exact ⟨rfl, rfl⟩
          · have g23 := h23
            try (replace g23 := of_decide_eq_false g23)
            try (replace g23 := not_f g23)
            first
            | exact absurd h23 (by decide)
            | (exfalso; omega)
            | skip
              refine gc_skip ?_
              refine gq_in_normal ?_
              refine gq_then' ?_
              refine gc_seq ?_
              refine gc_region ?_
              refine gl_y rfl (y_move rfl) ?_
              refine gl_y rfl (y_nilck rfl) ?_
              refine gl_y rfl (y_faddr fo_218_0 rfl) ?_
              refine gl_y rfl (y_loadA ag_63 sz_63 rfl (blk_own (i := 0) rfl) (vs := tabV) tabV_len tab_at) ?_
              refine gl_y rfl (y_move rfl) ?_
              refine gl_ef (ef_callp en_133 rfl (log_made _ (by first | omega | (simp only [List.length_append, List.length_cons, List.length_nil, List.length_take, List.length_drop, List.length_map, List.length_replicate, List.length_set, u8s_length, fx_length, fixed_length, tabTo_len, tabV_len]; omega))) rfl) ?_
              rintro _ _ _ ⟨v44, rfl, rfl, rfl, rfl⟩
              refine gl_y rfl (y_assign rfl) ?_
              refine gl_nil ?_
              refine gq_then' ?_
              refine gc_seq ?_
              refine gc_region ?_
              refine gl_y rfl (y_move rfl) ?_
              refine gl_y rfl (y_nilck rfl) ?_
              refine gl_y rfl (y_faddr fo_218_2 rfl) ?_
              refine gl_y rfl (y_load ag_3 rfl (blk_own (i := 0) rfl) (tab_get (l := [_, _, _]) 1 rfl)) ?_
              refine gl_y rfl (y_move rfl) ?_
              refine gl_y rfl (y_slen Try.underlying9 rfl) ?_
              first | refine gl_y rfl (y_add rfl rfl (wr_i64 (by omega) (by omega))) ?_ | refine gl_y rfl (y_add rfl rfl rfl) ?_
              refine gl_y rfl (y_assign rfl) ?_
              refine gl_nil ?_
              refine gq_then' ?_
              refine gc_seq ?_
              refine gc_seq ?_
              refine gc_region ?_
              refine gl_y rfl (y_move rfl) ?_
              refine gl_y rfl (y_nilck rfl) ?_
              refine gl_y rfl (y_faddr fo_218_2 rfl) ?_
              refine gl_y rfl (y_load ag_3 rfl (blk_own (i := 0) rfl) (tab_get (l := [_, _, _]) 1 rfl)) ?_
              refine gl_y rfl (y_quo rfl rfl (by omega) (quo64 _ (by omega))) ?_
              refine gl_y rfl (y_assign rfl) ?_
              refine gl_nil ?_
              refine gq_then' ?_
              refine gc_block ?_
              have hA := app_good (F := F) (show ¬ (r.length < 1 ∨ 4000 < r.length) by omega) (show ¬ 64 * n < e + 6 + r.length by omega)
              refine gc_weak 1 rfl (dsk_weak (F' := ovl F e ((mk r).take 0)) (k' := k + e / 64) ovl_nil.symm (Nat.le_add_right _ _)) ?_
              refine gc_loopW (α := Nat × Nat) [57, 58, 61, 62, 63, 64, 65, 66, 67, 68, 8, 70, 71, 72, 73, 74, 75, 69, 76, 77, 9, 10, 78, 79, 80, 81, 82, 4, 83, 84, 85, 86, 87, 11, 88, 89, 90, 91, 92, 93, 94, 95, 96, 97, 98, 99, 100, 101, 102, 103, 104, 105, 106, 12, 107, 108, 109, 110, 111, 112, 113, 114, 5, 59, 60, 7] (fun (⟨w, i⟩ : Nat × Nat) => [(5, .string (bs ((mk r).drop w))), (7, .int .i64 (i : Int))]) (fun (⟨w, i⟩ : Nat × Nat) => [logE l d (e : Nat), dsk d (ovl F e ((mk r).take w)) (k + i)]) (fun (⟨w, i⟩ : Nat × Nat) => AppAt F (mk r) e w i ∧ i ≤ n) (fun (⟨w, i⟩ : Nat × Nat) => (mk r).length - w) (0, e / 64) ?_ perm_same ?_ ?_
              · exact ⟨app_first F (mk r) e, by (show e / 64 ≤ n); omega⟩
              · exact ⟨rfl, rfl, trivial⟩
              · rintro ⟨w, i⟩ ⟨hap, hin⟩
                replace hin : i ≤ n := hin
                have hap1 : w ≤ (mk r).length := hap.1
                have hFw : (ovl F e ((mk r).take w)).length = 64 * n := by rw [ovl_len (by rw [List.length_take]; omega), hF]
                have hdl : ((mk r).drop w).length = (mk r).length - w := List.length_drop ..
                refine gc_seq ?_
                refine gc_seq ?_
                refine gc_region ?_
                refine gl_y rfl (y_move rfl) ?_
                refine gl_y rfl (y_sneq rfl rfl) ?_
                refine gl_nil ?_
                refine gq_then' ?_
                refine gc_if rfl (fun h58 => ?_) (fun h58 => ?_)
                · have g58 := h58
                  try (replace g58 := of_decide_eq_true g58)
                  try (replace g58 := not_t g58)
                  first
                  | exact absurd h58 (by decide)
                  | (exfalso; omega)
                  | skip
                    refine gc_skip ?_
                    refine gq_then' ?_
                    refine gc_seq ?_
                    refine gc_block ?_
                    refine gc_seq ?_
                    refine gc_region ?_
                    have hwl : w < (mk r).length := by have := List.length_pos_iff.2 (show (mk r).drop w ≠ [] from g58); omega
                    have hst := app_step hF (by omega) hap hwl
                    have hsl := sec_len hFw hst.1
                    have hap2 := hap.2 hwl
                    refine gl_y rfl (y_move rfl) ?_
                    refine gl_y rfl (y_nilck rfl) ?_
                    refine gl_y rfl (y_faddr fo_218_2 rfl) ?_
                    refine gl_y rfl (y_load ag_3 rfl (blk_own (i := 0) rfl) (tab_get (l := [_, _, _]) 1 rfl)) ?_
                    refine gl_y rfl (y_move rfl) ?_
                    first | refine gl_y rfl (y_mul rfl rfl (wr_i64 (by omega) (by omega))) ?_ | refine gl_y rfl (y_mul rfl rfl rfl) ?_
                    first | refine gl_y rfl (y_sub rfl rfl (wr_i64 (by omega) (by omega))) ?_ | refine gl_y rfl (y_sub rfl rfl rfl) ?_
                    refine gl_y rfl (y_max rfl rfl (show max ((e : Int) - (i : Int) * 64) 0 = ((e - 64 * i : Nat) : Int) by omega)) ?_
                    refine gl_y rfl (y_assign rfl) ?_
                    refine gl_nil ?_
                    refine gq_then' ?_
                    refine gc_seq ?_
                    refine gc_region ?_
                    refine gl_y rfl (y_move rfl) ?_
                    refine gl_y rfl (y_nilck rfl) ?_
                    refine gl_y rfl (y_faddr fo_218_1 rfl) ?_
                    refine gl_y rfl (y_load ag_78 rfl (blk_own (i := 0) rfl) (tab_get (l := [_, _, _]) 0 rfl)) ?_
                    refine gl_y rfl (y_move rfl) ?_
                    refine gl_ef (ef_callq en_128 rfl (disk_ReadN _ _ _ n i hFw (by first | omega | (simp only [List.length_append, List.length_cons, List.length_nil, List.length_take, List.length_drop, List.length_map, List.length_replicate, List.length_set, u8s_length, fx_length, fixed_length, tabTo_len, tabV_len]; omega)) hst.1) (perm_one (i := 1) rfl) (fun hl I1 h1 h2 _ => dk_lend h1 h2) rfl) ?_
                    rintro _ _ _ ⟨v75, rfl, rfl, rfl, rfl⟩
                    refine gl_y rfl (y_move rfl) ?_
                    refine gl_y rfl (y_extract rfl rfl) ?_
                    refine gl_y rfl (y_extract rfl rfl) ?_
                    refine gl_y rfl (y_assign rfl) ?_
                    refine gl_y rfl (y_assign rfl) ?_
                    refine gl_nil ?_
                    refine gq_then' ?_
                    refine gc_seq ?_
                    refine gc_seq ?_
                    refine gc_region ?_
                    refine gl_y rfl (y_move rfl) ?_
                    refine gl_y rfl (y_neq rfl rfl) ?_
                    refine gl_nil ?_
                    refine gq_then' ?_
                    refine gc_f rfl rfl ?_
                    refine gc_skip ?_
                    refine gq_then' ?_
                    refine gc_seq ?_
                    refine gc_region ?_
                    refine gl_y rfl (y_move rfl) ?_
                    refine gl_y rfl (y_slen Try.underlying9 rfl) ?_
                    refine gl_y rfl (y_move rfl) ?_
                    first | refine gl_y rfl (y_sub rfl rfl (wr_i64 (by omega) (by omega))) ?_ | refine gl_y rfl (y_sub rfl rfl rfl) ?_
                    refine gl_y rfl (y_min rfl rfl (show min ((((mk r).drop w).length : Nat) : Int) (64 - ((e - 64 * i : Nat) : Int)) = ((min ((mk r).length - w) (64 - (e - 64 * i)) : Nat) : Int) by rw [List.length_drop]; omega)) ?_
                    refine gl_y rfl (y_assign rfl) ?_
                    refine gl_nil ?_
                    refine gq_then' ?_
                    refine gc_seq ?_
                    refine gc_seq ?_
                    refine gc_region_draw (N := 20) [(l, (logC d (e : Nat)))] rfl follows_mixed (by repeat (first | exact panicOk_body | refine panicOk_then ?_ | refine panicOk_in ?_)) (by kernel_rfl) ?_ ?_
                    · exact ⟨blk_own (i := 0) rfl, trivial⟩
                    · skip
                      refine ga_y 0 rfl (by kernel_rfl) (by kernel_rfl) rfl (y_move rfl) ?_
                      refine ga_y 1 rfl (by kernel_rfl) (by kernel_rfl) rfl (y_nilck rfl) ?_
                      refine ga_y 2 rfl (by kernel_rfl) (by kernel_rfl) rfl (y_faddr fo_218_1 rfl) ?_
                      refine ga_y 3 rfl (by kernel_rfl) (by kernel_rfl) rfl (y_load ag_78 rfl (blk_S (k := 0) rfl) (tab_get (l := [_, _, _]) 0 rfl)) ?_
                      refine ga_y 4 rfl (by kernel_rfl) (by kernel_rfl) rfl (y_move rfl) ?_
                      refine ga_y 5 rfl (by kernel_rfl) (by kernel_rfl) rfl (y_move rfl) ?_
                      refine ga_y 6 rfl (by kernel_rfl) (by kernel_rfl) rfl (y_move rfl) ?_
                      refine ga_y 7 rfl (by kernel_rfl) (by kernel_rfl) rfl (y_sslice_h Try.underlying9 rfl rfl (by omega) (by first | omega | (simp only [List.length_append, List.length_cons, List.length_nil, List.length_take, List.length_drop, List.length_map, List.length_replicate, List.length_set, u8s_length, fx_length, fixed_length, tabTo_len, tabV_len]; omega))) ?_
                      refine ga_y 8 rfl (by kernel_rfl) (by kernel_rfl) rfl (y_move rfl) ?_
                      refine ga_y 9 rfl (by kernel_rfl) (by kernel_rfl) rfl (y_move rfl) ?_
                      refine ga_y 10 rfl (by kernel_rfl) (by kernel_rfl) rfl (y_sslice_h Try.underlying9 rfl rfl (by omega) (by first | omega | (simp only [List.length_append, List.length_cons, List.length_nil, List.length_take, List.length_drop, List.length_map, List.length_replicate, List.length_set, u8s_length, fx_length, fixed_length, tabTo_len, tabV_len]; omega))) ?_
                      refine ga_y 11 rfl (by kernel_rfl) (by kernel_rfl) rfl (y_sadd rfl rfl (by first | omega | (simp only [List.length_append, List.length_cons, List.length_nil, List.length_take, List.length_drop, List.length_map, List.length_replicate, List.length_set, u8s_length, fx_length, fixed_length, tabTo_len, tabV_len]; omega))) ?_
                      refine ga_y 12 rfl (by kernel_rfl) (by kernel_rfl) rfl (y_move rfl) ?_
                      refine ga_y 13 rfl (by kernel_rfl) (by kernel_rfl) rfl (y_move rfl) ?_
                      refine ga_y 14 rfl (by kernel_rfl) (by kernel_rfl) rfl (y_move rfl) ?_
                      first | refine ga_y 15 rfl (by kernel_rfl) (by kernel_rfl) rfl (y_add rfl rfl (wr_i64 (by omega) (by omega))) ?_ | refine ga_y 15 rfl (by kernel_rfl) (by kernel_rfl) rfl (y_add rfl rfl rfl) ?_
                      refine ga_y 16 rfl (by kernel_rfl) (by kernel_rfl) rfl (y_sslice_l Try.underlying9 rfl rfl (by omega) (by first | omega | (simp only [List.length_append, List.length_cons, List.length_nil, List.length_take, List.length_drop, List.length_map, List.length_replicate, List.length_set, u8s_length, fx_length, fixed_length, tabTo_len, tabV_len]; omega))) ?_
                      refine ga_y 17 rfl (by kernel_rfl) (by kernel_rfl) rfl (y_sadd rfl rfl (by first | omega | (simp only [List.length_append, List.length_cons, List.length_nil, List.length_take, List.length_drop, List.length_map, List.length_replicate, List.length_set, u8s_length, fx_length, fixed_length, tabTo_len, tabV_len]; omega))) ?_
                      refine ga_all1 (i := 18) (by kernel_rfl) ?_
                      · skip
                        refine gb_ef rfl (ef_callm en_54 rfl (disk_WriteN _ _ _ n i _ hFw hst.1 (by simp only [List.length_append, List.length_take, List.length_drop, hsl]; omega) (by first | omega | (simp only [List.length_append, List.length_cons, List.length_nil, List.length_take, List.length_drop, List.length_map, List.length_replicate, List.length_set, u8s_length, fx_length, fixed_length, tabTo_len, tabV_len]; omega))) (perm_one (i := 1) rfl) rfl) ?_
                        rintro _ _ _ ⟨v106, Mc106, ⟨rfl, rfl⟩, rfl, rfl, rfl⟩
                        refine ⟨sat_S ⟨blk_own (i := 1) rfl, trivial⟩, ?_⟩
                        refine ga_y 19 rfl (by kernel_rfl) (by kernel_rfl) rfl (y_assign rfl) ?_
                        refine ga_done (by kernel_rfl) ?_
                        refine gq_then' ?_
                        refine gc_seq ?_
                        refine gc_region ?_
                        refine gl_y rfl (y_move rfl) ?_
                        refine gl_y rfl (y_neq rfl rfl) ?_
                        refine gl_nil ?_
                        refine gq_then' ?_
                        refine gc_f rfl rfl ?_
                        refine gc_skip ?_
                        refine gq_then' ?_
                        refine gc_region ?_
                        refine gl_y rfl (y_move rfl) ?_
                        refine gl_y rfl (y_move rfl) ?_
                        refine gl_y rfl (y_sslice_l Try.underlying9 rfl rfl (by omega) (by first | omega | (simp only [List.length_append, List.length_cons, List.length_nil, List.length_take, List.length_drop, List.length_map, List.length_replicate, List.length_set, u8s_length, fx_length, fixed_length, tabTo_len, tabV_len]; omega))) ?_
                        refine gl_y rfl (y_assign rfl) ?_
                        refine gl_nil ?_
                        refine gq_in_normal ?_
                        refine gq_then' ?_
                        refine gc_region ?_
                        refine gl_y rfl (y_move rfl) ?_
                        first | refine gl_y rfl (y_add rfl rfl (wr_i64 (by omega) (by omega))) ?_ | refine gl_y rfl (y_add rfl rfl rfl) ?_
                        refine gl_y rfl (y_assign rfl) ?_
                        refine gl_nil ?_
                        refine gq_M (congrArg (fun x => dsk d x (k + i + 1) :: _) hst.2.2) ?_
                        refine gq_roundW (x := (⟨w, i⟩ : Nat × Nat)) (w + min ((mk r).length - w) (64 - (e - 64 * i)), i + 1) ?_ ?_ (perm_two (i := 1) (j := 0) rfl rfl) rfl (by repeat (first | exact Ext.refl | refine Ext.cons rfl ?_)) ?_
                        · exact ⟨hst.2.1, by (show i + 1 ≤ n); have := hst.1; omega⟩
                        · (show (mk r).length - (w + min ((mk r).length - w) (64 - (e - 64 * i))) < (mk r).length - w); have := hap.2 (by omega); omega
                        · exact ⟨congrArg (fun x => some (Value.string (bs x))) (List.drop_drop ..), rfl, trivial⟩
                · have g58 := h58
                  try (replace g58 := of_decide_eq_false g58)
                  try (replace g58 := not_f g58)
                  first
                  | exact absurd h58 (by decide)
                  | (exfalso; omega)
                  | skip
                    refine gc_exit ?_
                    refine gq_pass_exit ?_
                    refine gq_pass_exit ?_
                    refine gq_in_exit ?_
                    refine gq_then' ?_
                    refine gc_seq ?_
                    have hwe : w = (mk r).length := by have := List.length_eq_zero_iff.2 (show (mk r).drop w = [] from Classical.not_not.1 g58); omega
                    subst hwe
                    refine gc_weak 1 rfl (dsk_weak (F' := ovl F e (mk r)) (k' := k + n) (by rw [List.take_length]) (by omega)) ?_
                    refine gc_region ?_
                    refine gl_y rfl (y_move rfl) ?_
                    refine gl_y rfl (y_move rfl) ?_
                    refine gl_y rfl (y_nilck rfl) ?_
                    refine gl_y rfl (y_faddr fo_218_2 rfl) ?_
                    refine gl_ef (ef_store sz_3 rfl rfl rfl (i := 0) rfl (by first | rfl | exact blt_of (by first | omega | (simp only [List.length_append, List.length_cons, List.length_nil, List.length_take, List.length_drop, List.length_map, List.length_replicate, List.length_set, u8s_length, fx_length, fixed_length, tabTo_len, tabV_len]; omega)))) ?_
                    rintro _ _ _ ⟨rfl, rfl, rfl⟩
                    rw [show (logC d (e : Nat)).set (0 + 257) _ = logC d _ from tab_set _ 1 _]
                    refine gl_nil ?_
                    refine gq_then' ?_
                    refine gc_seq ?_
                    refine gc_region ?_
                    refine gl_y rfl (y_assign rfl) ?_
                    refine gl_nil ?_
                    refine gq_then' ?_
                    refine gc_ret ?_
                    refine gq_r1 rfl rfl perm_same ?_
                    rw [hA.1, hA.2.1, hA.2.2, ← hm]; exact ⟨rfl, rfl⟩
theorem log_End {I : PH} (l d : Nat) (e : Int) : Ctr Try.prog 45 [.pointer (some ⟨l, 0, none⟩)] I [logE l d e] (fun v _ M' => v = .int .i64 e ∧ M' = [logE l d e]) := by
  refine ctr_of Try.func45 rfl (n := 7) rfl rfl ?_
  intro G R
  simp only [argL]
  refine gc_seq ?_
  refine gc_region ?_
  refine gl_y rfl (y_assign rfl) ?_
  refine gl_nil ?_
  refine gq_then' ?_
  refine gc_seq ?_
  refine gc_region ?_
  refine gl_y rfl (y_move rfl) ?_
  refine gl_y rfl (y_nilck rfl) ?_
  refine gl_y rfl (y_faddr fo_218_2 rfl) ?_
  refine gl_y rfl (y_load ag_3 rfl (blk_own (i := 0) rfl) (tab_get (l := [_, _, _]) 1 rfl)) ?_
  refine gl_y rfl (y_assign rfl) ?_
  refine gl_nil ?_
  refine gq_then' ?_
  refine gc_ret ?_
  refine gq_r1 rfl rfl perm_same ?_
  exact ⟨rfl, rfl⟩
theorem log_Over {I : PH} (l d : Nat) (e : Int) : Ctr Try.prog 50 [.pointer (some ⟨l, 0, none⟩)] I [logE l d e] (fun v _ M' => v = .bool false ∧ M' = [logE l d e]) := by
  refine ctr_of Try.func50 rfl (n := 7) rfl rfl ?_
  intro G R
  simp only [argL]
  refine gc_seq ?_
  refine gc_region ?_
  refine gl_y rfl (y_assign rfl) ?_
  refine gl_nil ?_
  refine gq_then' ?_
  refine gc_seq ?_
  refine gc_region ?_
  refine gl_y rfl (y_move rfl) ?_
  refine gl_y rfl (y_nilck rfl) ?_
  refine gl_y rfl (y_faddr fo_218_3 rfl) ?_
  refine gl_y rfl (y_load ag_4 rfl (blk_own (i := 0) rfl) (tab_get (l := [_, _, _]) 2 rfl)) ?_
  refine gl_y rfl (y_assign rfl) ?_
  refine gl_nil ?_
  refine gq_then' ?_
  refine gc_ret ?_
  refine gq_r1 rfl rfl perm_same ?_
  exact ⟨rfl, rfl⟩
end Go.Proofs.YtnccebppgmnmfaaS
