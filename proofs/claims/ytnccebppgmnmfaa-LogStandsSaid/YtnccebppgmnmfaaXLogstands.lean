/- logstands: the law LogStands. -/
import Derived.Test.YtnccebppgmnmfaaSepFacts
import Derived.Test.YtnccebppgmnmfaaSepQ
import Derived.Test.YtnccebppgmnmfaaSepO
import Derived.Test.YtnccebppgmnmfaaXLoglaw
set_option linter.unusedVariables false
set_option linter.unusedSimpArgs false
set_option maxRecDepth 20000
namespace Go.Proofs.YtnccebppgmnmfaaS
open Go.RowKit Go.Proofs

theorem joinR_le : ∀ (l : List By), (∀ r ∈ l, r.length ≤ 100) → (joinR l).length ≤ 106 * l.length
  | [], _ => by simp [joinR]
  | r :: l, h => by
    have h1 := joinR_le l fun q hq => h q (by simp [hq])
    have h2 := h r (by simp)
    have e : joinR (r :: l) = mk r ++ joinR l := by simp [joinR]
    rw [e, List.length_append, mk_len, List.length_cons]; omega
theorem stands_le (b : By) : (standsF b).length ≤ b.length := by
  induction hn : b.length using Nat.strongRecOn generalizing b with
  | _ n ih =>
    by_cases h : oneF b = []
    · rw [stands_nil h]; exact Nat.zero_le _
    · have h1 := oneF_six h
      have h2 := ih _ (by rw [← hn]; simp; omega) (b.drop (6 + (oneF b).length)) rfl
      rw [stands_cons h, List.length_cons]; simp only [List.length_drop] at h2; omega
theorem rem_len (x m : Nat) : ((x : Nat) : Int).tmod (m : Int) = ((x % m : Nat) : Int) := by rw [Int.tmod_eq_emod_of_nonneg (by omega)]; exact (Int.natCast_emod x m).symm
theorem bend_get {B : By} {jk : List Value} {i : Nat} (h : i < B.length) : (u8s B ++ jk)[0 + (i : Int).toNat * 1]? = some (.int .u8 ((B[i]'h).toNat : Int)) := by
  rw [Nat.zero_add, Nat.mul_one, Int.toNat_natCast, List.getElem?_append_left (by simpa [u8s] using h)]
  simp [u8s, u8v, h]
theorem bend_xor (a : UInt8) (y : Nat) (hy : y < 256) : ibits .xor .u8 (a.toNat : Int) (y : Int) = ((a ^^^ UInt8.ofNat y).toNat : Int) := by
  rw [ibits_xor (k := .u8) rfl (by have := a.toNat_lt; simpa [IntKind.bits] using this) (by simpa [IntKind.bits] using hy), UInt8.toNat_xor, UInt8.toNat_ofNat', Nat.mod_eq_of_lt (by omega : y < 2 ^ 8)]
theorem bend_set {B : By} {jk : List Value} {i : Nat} {c : UInt8} (h : i < B.length) : (u8s B ++ jk).set (0 + (i : Int).toNat * 1) (.int .u8 (c.toNat : Int)) = u8s (B.set i c) ++ jk := by
  rw [Nat.zero_add, Nat.mul_one, Int.toNat_natCast, List.set_append_left _ _ (by simpa [u8s] using h)]
  exact congrArg (· ++ jk) (u8s_set B i c)
theorem sec_hv {B : By} {jk : List Value} {i : Nat} : ∀ j q, (sec B i)[j]? = some q → (u8s B ++ jk)[0 + ((64 : Int) * (i : Int)).toNat * 1 + j]? = some (u8v q) := fun j q h => by
  have e : ((64 : Int) * (i : Int)).toNat = 64 * i := by omega
  have hj : j < 64 := by have := (List.getElem?_eq_some_iff.1 h).1; unfold sec at this; rw [List.length_take] at this; omega
  unfold sec at h
  rw [List.getElem?_take_of_lt hj, List.getElem?_drop] at h
  rw [Nat.zero_add, Nat.mul_one, e, List.getElem?_append_left (by have := (List.getElem?_eq_some_iff.1 h).1; simpa [u8s] using this)]
  simp [u8s, h]
theorem take_hv {B : By} {jk : List Value} {m : Nat} : ∀ j q, (B.take m)[j]? = some q → (u8s B ++ jk)[0 + j]? = some (u8v q) := fun j q h => by
  have hj : j < m := by have := (List.getElem?_eq_some_iff.1 h).1; rw [List.length_take] at this; omega
  rw [List.getElem?_take_of_lt hj] at h
  exact u8s_get j q h
theorem fill_step {B : By} {n i : Nat} (hn : B.length = 64 * n) (hi : i < n) : ovl (B.take (64 * i) ++ zs (64 * n - 64 * i)) (64 * i) (sec B i) = B.take (64 * (i + 1)) ++ zs (64 * n - 64 * (i + 1)) := by
  have hs := sec_len hn hi
  have h1 : (B.take (64 * i)).length = 64 * i := by rw [List.length_take]; omega
  have h2 := ovl_end (x := B.take (64 * i)) (r := sec B i) (m := 64 * n - 64 * i) (by omega)
  rw [h1] at h2
  rw [h2, hs, sec_take]
  congr 2
theorem quoN {m n : Nat} (h : m = 64 * n) (hm : m ≤ 1099511627776) : IntKind.i64.wrap (((m : Nat) : Int).tdiv 64) = ((n : Nat) : Int) := by
  rw [quo64 _ hm]; omega
theorem rem64 (m : Nat) : ((m : Nat) : Int).tmod 64 = ((m % 64 : Nat) : Int) := by rw [Int.tmod_eq_emod_of_nonneg (by omega)]; omega

set_option maxHeartbeats 2000000 in
theorem law_LogStands (va : Value) (l : List By) (behind : By) (x y : Nat) (hx8 : x < 256) (hy8 : y < 256) (hlen : l.length ≤ 9223372036854775807) : CtrQ Try.prog 8 [va, .string (bs behind), .agg #[.int .u8 (x : Int), .int .u8 (y : Int)]] (fun I => KS I va l) (fun v => v = .bool true) := by
  refine CtrQ.of fun I hK => ?_
  have hK1 := hK
  obtain ⟨A, c, rfl, hR⟩ := hK1
  refine ctr_of Try.func8 rfl (n := 158) rfl rfl ?_
  intro G R
  simp only [argL]
  refine gc_seq ?_
  refine gc_region ?_
  refine gl_ef (ef_box rfl (l := [_, _]) rfl rfl) ?_
  rintro _ _ _ ⟨b5, rfl, rfl, rfl⟩
  refine gl_y rfl (y_assign rfl) ?_
  refine gl_nil ?_
  refine gq_then' ?_
  refine gc_seq ?_
  refine gc_seq ?_
  refine gc_region ?_
  refine gl_ef (ef_callp en_41 rfl (law_awake08) rfl) ?_
  rintro _ _ _ ⟨v20, rfl, rfl, rfl, rfl⟩
  refine gl_y rfl (y_not rfl) ?_
  refine gl_y rfl (y_move rfl) ?_
  refine gl_want rfl rfl rfl rfl ?_
  refine gl_y rfl (y_move rfl) ?_
  refine gl_want rfl rfl rfl rfl ?_
  refine gl_ef (ef_callq en_42 rfl (ref_Few08 _ l 8 100 (by decide) (by decide)) perm_all (fun _ _ _ _ h => hK.le h) rfl) ?_
  rintro _ _ _ ⟨v24, ⟨b24, rfl, hb24⟩, rfl, rfl, rfl⟩
  refine gl_want rfl rfl rfl rfl ?_
  refine gl_y rfl (y_not rfl) ?_
  refine gl_y rfl (y_pick_f rfl rfl rfl) ?_
  refine gl_y rfl (y_move rfl) ?_
  refine gl_if (t := 27) rfl (fun h27 => ?_) (fun h27 => ?_)
  · have g27 := h27
    try (replace g27 := of_decide_eq_true g27)
    first
    | exact absurd h27 (by decide)
    | (exfalso; omega)
    | skip
      refine gl_skip rfl rfl rfl h27 rfl ?_
      refine gl_skip rfl rfl rfl h27 rfl ?_
      refine gl_skip rfl rfl rfl h27 rfl ?_
      refine gl_y rfl (y_pick_t rfl h27 rfl) ?_
      refine gl_nil ?_
      refine gq_then' ?_
      refine gc_t rfl rfl ?_
      refine gc_seq ?_
      refine gc_region ?_
      refine gl_ef (ef_callp en_41 rfl (law_awake08) rfl) ?_
      rintro _ _ _ ⟨v32, rfl, rfl, rfl, rfl⟩
      refine gl_y rfl (y_assign rfl) ?_
      refine gl_nil ?_
      refine gq_then' ?_
      refine gc_ret ?_
      refine gq_pass_ret ?_
      refine gq_r1 rfl rfl perm_all ?_
      first | exact rfl | exact congrArg Value.bool (decide_eq_true (by omega))
  · have g27 := h27
    try (replace g27 := of_decide_eq_false g27)
    obtain ⟨hl20, hl200⟩ := hb24 (by simpa using h27)
    first
    | exact absurd h27 (by decide)
    | (exfalso; omega)
    | skip
      refine gl_want rfl rfl rfl h27 ?_
      refine gl_y rfl (y_move rfl) ?_
      refine gl_want rfl rfl rfl h27 ?_
      refine gl_y rfl (y_slen Try.underlying9 rfl) ?_
      refine gl_want rfl rfl rfl h27 ?_
      refine gl_y rfl (y_gtr rfl rfl) ?_
      refine gl_y rfl (y_pick_f rfl h27 rfl) ?_
      refine gl_nil ?_
      refine gq_then' ?_
      refine gc_if rfl (fun h31 => ?_) (fun h31 => ?_)
      · have g31 := h31
        try (replace g31 := of_decide_eq_true g31)
        first
        | exact absurd h31 (by decide)
        | (exfalso; omega)
        | skip
          refine gc_seq ?_
          refine gc_region ?_
          refine gl_ef (ef_callp en_41 rfl (law_awake08) rfl) ?_
          rintro _ _ _ ⟨v32, rfl, rfl, rfl, rfl⟩
          refine gl_y rfl (y_assign rfl) ?_
          refine gl_nil ?_
          refine gq_then' ?_
          refine gc_ret ?_
          refine gq_pass_ret ?_
          refine gq_r1 rfl rfl perm_all ?_
          first | exact rfl | exact congrArg Value.bool (decide_eq_true (by omega))
      · have g31 := h31
        try (replace g31 := of_decide_eq_false g31)
        first
        | exact absurd h31 (by decide)
        | (exfalso; omega)
        | skip
          refine gc_skip ?_
          refine gq_then' ?_
          refine gc_seq ?_
          refine gc_region ?_
          refine gl_y rfl (y_assign rfl) ?_
          refine gl_nil ?_
          refine gq_then' ?_
          refine gc_seq ?_
          refine gc_seq ?_
          refine gc_region ?_
          refine gl_y rfl (y_assign rfl) ?_
          refine gl_nil ?_
          refine gq_then' ?_
          refine gc_block ?_
          refine gc_loopW (α := Nat) [33, 34, 35, 36, 39, 40, 41, 42, 43, 44, 45, 7, 37, 38, 8] (fun (i : Nat) => [(8, .int .i64 (i : Int)), (7, .string (bs (joinR (l.take i))))]) (fun (i : Nat) => [cl b5 89 [.int .u8 (x : Int), .int .u8 (y : Int)]]) (fun (i : Nat) => i ≤ l.length) (fun (i : Nat) => l.length - i) 0 ?_ perm_same ?_ ?_
          · exact Nat.zero_le _
          · exact ⟨rfl, rfl, trivial⟩
          · rintro i hi
            have hJ := joinR_le (l.take i) fun r hr => hl200 r (List.mem_of_mem_take hr)
            rw [List.length_take] at hJ
            refine gc_seq ?_
            refine gc_seq ?_
            refine gc_region ?_
            refine gl_y rfl (y_move rfl) ?_
            refine gl_y rfl (y_move rfl) ?_
            refine gl_y rfl (y_len Try.underlying76 rfl) ?_
            refine gl_y rfl (y_lss rfl rfl) ?_
            refine gl_nil ?_
            refine gq_then' ?_
            refine gc_if rfl (fun h36 => ?_) (fun h36 => ?_)
            · have g36 := h36
              try (replace g36 := of_decide_eq_true g36)
              first
              | exact absurd h36 (by decide)
              | (exfalso; omega)
              | skip
                refine gc_skip ?_
                refine gq_then' ?_
                refine gc_seq ?_
                refine gc_block ?_
                refine gc_region ?_
                refine gl_y rfl (y_move rfl) ?_
                refine gl_y rfl (y_move rfl) ?_
                refine gl_y rfl (y_move rfl) ?_
                obtain ⟨r, hr⟩ : ∃ r, l[i]? = some r := ⟨_, List.getElem?_eq_getElem (by omega)⟩
                have hr100 := hl200 r (List.mem_of_getElem? hr)
                obtain ⟨b, o, t, fz3, cs, hA, hI, hc⟩ := hR.pos (by omega)
                refine gl_y rfl (y_iaddrA Try.underlying76 sz_9 rfl hA rfl (by omega) (by omega)) ?_
                refine gl_y rfl (y_load ag_9 rfl (blk_known hI) (str_get hc hr)) ?_
                refine gl_ef (ef_callp en_47 rfl (ref_Made r (by omega)) rfl) ?_
                rintro _ _ _ ⟨v44, rfl, rfl, rfl, rfl⟩
                refine gl_y rfl (y_sadd rfl rfl (by first | omega | (simp only [List.length_append, List.length_cons, List.length_nil, List.length_take, List.length_drop, List.length_map, List.length_replicate, List.length_set, u8s_length, fx_length, fixed_length, tabTo_len, tabV_len, zs_len, mk_len]; omega))) ?_
                refine gl_y rfl (y_assign rfl) ?_
                refine gl_nil ?_
                refine gq_in_normal ?_
                refine gq_then' ?_
                refine gc_region ?_
                refine gl_y rfl (y_move rfl) ?_
                first | refine gl_y rfl (y_add rfl rfl (wr_i64 (by omega) (by omega))) ?_ | refine gl_y rfl (y_add rfl rfl rfl) ?_
                refine gl_y rfl (y_assign rfl) ?_
                refine gl_nil ?_
                refine gq_roundW (i + 1) ?_ ?_ perm_same rfl (by repeat (first | exact Ext.refl | refine Ext.cons rfl ?_)) ?_
                · omega
                · (show l.length - (i + 1) < l.length - i); omega
                · exact ⟨rfl, congrArg (fun l => some (Value.string (bs l))) (by rw [← joinR_snoc, List.take_add_one, hr]; rfl), trivial⟩
            · have g36 := h36
              try (replace g36 := of_decide_eq_false g36)
              first
              | exact absurd h36 (by decide)
              | (exfalso; omega)
              | skip
                refine gc_exit ?_
                refine gq_pass_exit ?_
                refine gq_pass_exit ?_
                refine gq_in_exit ?_
                refine gq_then' ?_
                refine gc_seq ?_
                obtain rfl : i = l.length := by omega
                have hJ := joinR_le l hl200
                rw [List.take_length]
                have hB0 : (joinR l ++ behind).length ≤ 1348 := by rw [List.length_append]; omega
                skip
                refine gc_region ?_
                refine gl_y rfl (y_move rfl) ?_
                refine gl_y rfl (y_move rfl) ?_
                refine gl_y rfl (y_sadd rfl rfl (by first | omega | (simp only [List.length_append, List.length_cons, List.length_nil, List.length_take, List.length_drop, List.length_map, List.length_replicate, List.length_set, u8s_length, fx_length, fixed_length, tabTo_len, tabV_len, zs_len, mk_len]; omega))) ?_
                refine gl_ef (ef_tobytesC Try.underlying9 Try.underlying36 Try.underlying5 rfl (by omega) rfl) ?_
                rintro _ _ _ ⟨b49, c49, j49, hj49, hc49, rfl, rfl, rfl⟩
                refine gl_y rfl (y_assign rfl) ?_
                refine gl_nil ?_
                refine gq_then' ?_
                refine gc_seq ?_
                refine gc_seq ?_
                generalize joinR l ++ behind = B0 at hB0 hj49
                refine gc_region ?_
                refine gl_y rfl (y_move rfl) ?_
                refine gl_y rfl (y_len Try.underlying36 rfl) ?_
                refine gl_y rfl (y_gtr rfl rfl) ?_
                refine gl_nil ?_
                refine gq_then' ?_
                refine gc_if rfl (fun h52 => ?_) (fun h52 => ?_)
                · have g52 := h52
                  try (replace g52 := of_decide_eq_true g52)
                  first
                  | exact absurd h52 (by decide)
                  | (exfalso; omega)
                  | skip
                    have hpos : x % B0.length < B0.length := Nat.mod_lt _ (by omega)
                    refine gc_region_draw (N := 14) [(b5, [.int .u8 (x : Int), .int .u8 (y : Int)])] rfl follows_mixed (by repeat (first | exact panicOk_body | refine panicOk_then ?_ | refine panicOk_in ?_)) (by kernel_rfl) ?_ ?_
                    · exact ⟨blk_own (i := 0) rfl, trivial⟩
                    · skip
                      refine ga_y 0 rfl (by kernel_rfl) (by kernel_rfl) rfl (y_move rfl) ?_
                      refine ga_y 1 rfl (by kernel_rfl) (by kernel_rfl) rfl (y_iaddr_arr Try.underlying89 sz_5 rfl rfl (by omega) (by omega)) ?_
                      refine ga_y 2 rfl (by kernel_rfl) (by kernel_rfl) rfl (y_load ag_5 rfl (blk_S (k := 0) rfl) rfl) ?_
                      first | refine ga_y 3 rfl (by kernel_rfl) (by kernel_rfl) rfl (y_conv Try.underlying5 Try.underlying3 rfl (wr_i64 (by omega) (by omega))) ?_ | refine ga_y 3 rfl (by kernel_rfl) (by kernel_rfl) rfl (y_conv Try.underlying5 Try.underlying3 rfl rfl) ?_
                      refine ga_y 4 rfl (by kernel_rfl) (by kernel_rfl) rfl (y_move rfl) ?_
                      refine ga_y 5 rfl (by kernel_rfl) (by kernel_rfl) rfl (y_len Try.underlying36 rfl) ?_
                      refine ga_y 6 rfl (by kernel_rfl) (by kernel_rfl) rfl (y_rem rfl rfl (by omega) (rem_len x B0.length)) ?_
                      refine ga_y 7 rfl (by kernel_rfl) (by kernel_rfl) rfl (y_iaddr Try.underlying36 sz_5 rfl rfl (by omega) (by first | omega | (simp only [List.length_append, List.length_cons, List.length_nil, List.length_take, List.length_drop, List.length_map, List.length_replicate, List.length_set, u8s_length, fx_length, fixed_length, tabTo_len, tabV_len, zs_len, mk_len]; omega))) ?_
                      refine ga_y 9 rfl (by kernel_rfl) (by kernel_rfl) rfl (y_iaddr_arr Try.underlying89 sz_5 rfl rfl (by omega) (by omega)) ?_
                      refine ga_y 10 rfl (by kernel_rfl) (by kernel_rfl) rfl (y_load ag_5 rfl (blk_S (k := 0) rfl) rfl) ?_
                      refine ga_all1 (i := 8) (by kernel_rfl) ?_
                      · skip
                        refine gb_y rfl rfl (y_load ag_5 rfl (blk_own (i := 1) rfl) (bend_get hpos)) ?_
                        refine ga_y 11 rfl (by kernel_rfl) (by kernel_rfl) rfl (y_xor rfl rfl (bend_xor _ y hy8)) ?_
                        refine ga_y 12 rfl (by kernel_rfl) (by kernel_rfl) rfl (y_iaddr Try.underlying36 sz_5 rfl rfl (by omega) (by first | omega | (simp only [List.length_append, List.length_cons, List.length_nil, List.length_take, List.length_drop, List.length_map, List.length_replicate, List.length_set, u8s_length, fx_length, fixed_length, tabTo_len, tabV_len, zs_len, mk_len]; omega))) ?_
                        refine ga_all1 (i := 13) (by kernel_rfl) ?_
                        · skip
                          refine gb_ef rfl (ef_store sz_5 rfl rfl rfl (i := 1) rfl (by first | rfl | exact blt_of (by first | omega | (simp only [List.length_append, List.length_cons, List.length_nil, List.length_take, List.length_drop, List.length_map, List.length_replicate, List.length_set, u8s_length, fx_length, fixed_length, tabTo_len, tabV_len, zs_len, mk_len]; omega)))) ?_
                          rintro _ _ _ ⟨rfl, rfl, rfl⟩
                          refine ⟨sat_S ⟨blk_own (i := 0) rfl, trivial⟩, ?_⟩
                          rw [bend_set hpos]
                          obtain ⟨B0, hB1, hl1⟩ : ∃ B1, B0.set (x % B0.length) (B0[x % B0.length] ^^^ UInt8.ofNat y) = B1 ∧ B1.length = B0.length := ⟨_, rfl, List.length_set ..⟩
                          rw [hB1]
                          replace hB0 : B0.length ≤ 1348 := by rw [hl1]; exact hB0
                          replace hj49 : (u8s B0 ++ j49).length = c49 := by rw [List.length_append, u8s_length, hl1]; rw [List.length_append, u8s_length] at hj49; exact hj49
                          refine ga_done (by kernel_rfl) ?_
                          refine gq_then' ?_
                          refine gc_seq ?_
                          refine gc_block ?_
                          refine gc_loopW (α := By × Nat × Nat × List Value) [66, 67, 68, 69, 70, 71, 72, 9] (fun (⟨B, g, cp, jk⟩ : By × Nat × Nat × List Value) => [(9, .slice (some ⟨g, 0, none⟩) B.length cp)]) (fun (⟨B, g, cp, jk⟩ : By × Nat × Nat × List Value) => [cl g 5 (u8s B ++ jk)]) (fun (⟨B, g, cp, jk⟩ : By × Nat × Nat × List Value) => (u8s B ++ jk).length = cp ∧ cp ≤ maxLen ∧ B.length ≤ 1408) (fun (⟨B, g, cp, jk⟩ : By × Nat × Nat × List Value) => (64 - B.length % 64) % 64) (B0, b49, c49, j49) ?_ (perm_one (i := 1) rfl) ?_ ?_
                          · exact ⟨hj49, hc49, by (show B0.length ≤ 1408); omega⟩
                          · exact ⟨by first | rfl | exact congrArg (fun m => some (Value.slice (some ⟨b49, 0, none⟩) m c49)) hl1.symm, trivial⟩
                          · rintro ⟨B, g, cp, jk⟩ ⟨hcp, hcm, hB⟩
                            replace hcp : (u8s B ++ jk).length = cp := hcp
                            replace hcm : cp ≤ maxLen := hcm
                            replace hB : B.length ≤ 1408 := hB
                            refine gc_seq ?_
                            refine gc_seq ?_
                            refine gc_region ?_
                            refine gl_y rfl (y_move rfl) ?_
                            refine gl_y rfl (y_len Try.underlying36 rfl) ?_
                            refine gl_y rfl (y_rem rfl rfl (by omega) (rem64 _)) ?_
                            refine gl_y rfl (y_neq rfl rfl) ?_
                            refine gl_nil ?_
                            refine gq_then' ?_
                            refine gc_if rfl (fun h69 => ?_) (fun h69 => ?_)
                            · have g69 := h69
                              try (replace g69 := of_decide_eq_true g69)
                              first
                              | exact absurd h69 (by decide)
                              | (exfalso; omega)
                              | skip
                                refine gc_skip ?_
                                refine gq_then' ?_
                                refine gc_block ?_
                                refine gc_region ?_
                                refine gl_y rfl (y_move rfl) ?_
                                refine gl_ef (ef_buildSlice Try.underlying36 sz_5 zr_5 rfl rfl rfl (cs := [_]) (zl := [_]) rfl rfl rfl rfl) ?_
                                rintro _ _ _ ⟨b71, rfl, rfl, rfl⟩
                                refine gl_ef (ef_appendC Try.underlying36 tf_5 rfl (i := 0) rfl (by rw [u8s_length, Nat.mul_one]) (by rw [Nat.mul_one]; exact hcp) hcm rfl (src_all (blk_own (i := 1) rfl)) rfl rfl (by omega) (by omega) rfl) ?_
                                rintro _ _ _ ⟨g72, c72, j72, h72, hm72, rfl, rfl, rfl⟩
                                refine gl_y rfl (y_assign rfl) ?_
                                refine gl_nil ?_
                                refine gq_in_normal ?_
                                refine gq_M (congrArg (fun z => cl g72 _ (z ++ j72) :: _) (show u8s B ++ [Value.int .u8 0] = u8s (B ++ [0]) by rw [u8s_append]; rfl)) ?_
                                refine gq_roundW (x := (⟨B, g, cp, jk⟩ : By × Nat × Nat × List Value)) (B ++ [0], g72, c72, j72) ?_ ?_ (perm_one (i := 0) rfl) rfl (by repeat (first | exact Ext.refl | refine Ext.cons rfl ?_)) ?_
                                · exact ⟨by (show (u8s (B ++ [0]) ++ j72).length = c72); rw [u8s_append]; rw [Nat.mul_one] at h72; exact h72, hm72, by (show (B ++ [0]).length ≤ 1408); rw [List.length_append]; (show B.length + 1 ≤ 1408); omega⟩
                                · (show (64 - (B ++ [0]).length % 64) % 64 < (64 - B.length % 64) % 64); rw [List.length_append]; (show (64 - (B.length + 1) % 64) % 64 < _); omega
                                · exact ⟨congrArg (fun m => some (Value.slice (some ⟨g72, 0, none⟩) m c72)) (by simp), trivial⟩
                            · have g69 := h69
                              try (replace g69 := of_decide_eq_false g69)
                              first
                              | exact absurd h69 (by decide)
                              | (exfalso; omega)
                              | skip
                                refine gc_exit ?_
                                refine gq_pass_exit ?_
                                refine gq_pass_exit ?_
                                refine gq_in_exit ?_
                                refine gq_then' ?_
                                refine gc_seq ?_
                                obtain ⟨n, hn⟩ : ∃ n, B.length = 64 * n := ⟨B.length / 64, by omega⟩
                                have hcp2 : B.length ≤ cp := by rw [← hcp, List.length_append, u8s_length]; omega
                                refine gc_region ?_
                                refine gl_ef (ef_callp en_31 rfl (crc_Make) rfl) ?_
                                rintro _ _ _ ⟨v73, rfl, rfl, rfl, rfl⟩
                                refine gl_ef (ef_alloc zr_63 (l := _) rfl rfl) ?_
                                rintro _ _ _ ⟨b10, rfl, rfl, rfl⟩
                                refine gl_ef (ef_storeA sz_63 rfl (vs := tabV) rfl tabV_len tabV_one (i := 1) rfl (by rw [tabV_len, List.length_replicate]; rfl)) ?_
                                rintro _ _ _ ⟨rfl, rfl, rfl⟩
                                rw [setAt_tab _ (List.length_replicate ..)]
                                refine gl_nil ?_
                                refine gq_then' ?_
                                refine gc_seq ?_
                                refine gc_region ?_
                                refine gl_y rfl (y_move rfl) ?_
                                refine gl_y rfl (y_tostr (bytes := B) Try.underlying36 Try.underlying5 Try.underlying9 rfl (blk_own (i := 0) rfl) rfl u8s_get) ?_
                                refine gl_ef (ef_callm en_51 rfl (ref_Stands B (by first | omega | (simp only [List.length_append, List.length_cons, List.length_nil, List.length_take, List.length_drop, List.length_map, List.length_replicate, List.length_set, u8s_length, fx_length, fixed_length, tabTo_len, tabV_len, zs_len, mk_len]; omega))) perm_all rfl) ?_
                                rintro _ _ _ ⟨v77, Mc77, ⟨A77, rfl, rfl⟩, rfl, rfl, rfl⟩
                                refine gl_y rfl (y_move rfl) ?_
                                refine gl_y rfl (y_extract rfl rfl) ?_
                                refine gl_y rfl (y_extract rfl rfl) ?_
                                refine gl_y rfl (y_assign rfl) ?_
                                refine gl_y rfl (y_assign rfl) ?_
                                refine gl_nil ?_
                                refine gq_then' ?_
                                refine gc_seq ?_
                                refine gc_region ?_
                                refine gl_y rfl (y_loadA ag_63 sz_63 rfl (blk_own (i := 2) rfl) (vs := tabV) tabV_len (at_all tabV)) ?_
                                refine gl_y rfl (y_move rfl) ?_
                                refine gl_y rfl (y_tostr (bytes := B) Try.underlying36 Try.underlying5 Try.underlying9 rfl (blk_own (i := 1) rfl) rfl u8s_get) ?_
                                refine gl_ef (ef_callm en_52 rfl (log_Stands B (by first | omega | (simp only [List.length_append, List.length_cons, List.length_nil, List.length_take, List.length_drop, List.length_map, List.length_replicate, List.length_set, u8s_length, fx_length, fixed_length, tabTo_len, tabV_len, zs_len, mk_len]; omega))) perm_all rfl) ?_
                                rintro _ _ _ ⟨v84, Mc84, ⟨A84, rfl, rfl⟩, rfl, rfl, rfl⟩
                                refine gl_y rfl (y_move rfl) ?_
                                refine gl_y rfl (y_extract rfl rfl) ?_
                                refine gl_y rfl (y_extract rfl rfl) ?_
                                refine gl_y rfl (y_assign rfl) ?_
                                refine gl_y rfl (y_assign rfl) ?_
                                refine gl_nil ?_
                                refine gq_then' ?_
                                refine gc_seq ?_
                                refine gc_seq ?_
                                refine gc_region ?_
                                refine gl_y rfl (y_move rfl) ?_
                                refine gl_y rfl (y_move rfl) ?_
                                refine gl_ef (ef_callq en_49 rfl (ref_Same08 _ _ (standsF B) (by have := stands_le B; omega)) (perm_two (i := 0) (j := 0) rfl rfl) (fun hl I1 h1 h2 _ => ks_lend2 h1 h2) rfl) ?_
                                rintro _ _ _ ⟨v89, rfl, rfl, rfl, rfl⟩
                                refine gl_y rfl (y_not rfl) ?_
                                refine gl_y rfl (y_move rfl) ?_
                                refine gl_want rfl rfl rfl rfl ?_
                                refine gl_y rfl (y_move rfl) ?_
                                refine gl_want rfl rfl rfl rfl ?_
                                refine gl_y rfl (y_move rfl) ?_
                                refine gl_want rfl rfl rfl rfl ?_
                                refine gl_y rfl (y_neq rfl rfl) ?_
                                refine gl_y rfl (y_pick_f rfl rfl rfl) ?_
                                refine gl_nil ?_
                                refine gq_then' ?_
                                refine gc_f rfl (decide_eq_false (fun h => h rfl)) ?_
                                refine gc_skip ?_
                                refine gq_then' ?_
                                refine gc_seq ?_
                                refine gc_region ?_
                                refine gl_y rfl (y_move rfl) ?_
                                refine gl_y rfl (y_len Try.underlying36 rfl) ?_
                                refine gl_y rfl (y_quo rfl rfl (by omega) (quoN hn (by omega))) ?_
                                refine gl_ef (ef_callm en_43 rfl (disk_New n (by first | omega | (simp only [List.length_append, List.length_cons, List.length_nil, List.length_take, List.length_drop, List.length_map, List.length_replicate, List.length_set, u8s_length, fx_length, fixed_length, tabTo_len, tabV_len, zs_len, mk_len]; omega))) perm_all rfl) ?_
                                rintro _ _ _ ⟨v99, Mc99, ⟨d99, rfl, rfl⟩, rfl, rfl, rfl⟩
                                refine gl_y rfl (y_assign rfl) ?_
                                refine gl_nil ?_
                                refine gq_then' ?_
                                refine gc_seq ?_
                                refine gc_seq ?_
                                refine gc_region ?_
                                refine gl_y rfl (y_assign rfl) ?_
                                refine gl_nil ?_
                                refine gq_then' ?_
                                refine gc_block ?_
                                refine gc_weak 0 rfl (dsk_weak (F' := (B.take (64 * 0) ++ zs (64 * n - 64 * 0))) (k' := 0) (by simp) (Nat.le_refl _)) ?_
                                refine gc_loopW (α := Nat) [100, 101, 102, 103, 106, 107, 108, 109, 110, 111, 112, 113, 114, 115, 116, 104, 105, 16] (fun (i : Nat) => [(16, .int .i64 (i : Int))]) (fun (i : Nat) => [dsk d99 (B.take (64 * i) ++ zs (64 * n - 64 * i)) i, cl g 5 (u8s B ++ jk), osl 9 1 A77 (standsF B).length ((standsF B).map strV), cl b10 63 tabV]) (fun (i : Nat) => i ≤ n) (fun (i : Nat) => n - i) 0 ?_ ((get_perm (i := 0) rfl).trans (((get_perm (i := 2) rfl).trans (((get_perm (i := 1) rfl).trans (((get_perm (i := 1) rfl).trans ((List.Perm.refl _).cons _)).cons _)).cons _)).cons _)) ?_ ?_
                                · exact Nat.zero_le _
                                · exact ⟨rfl, trivial⟩
                                · rintro i hi
                                  refine gc_seq ?_
                                  refine gc_seq ?_
                                  refine gc_region ?_
                                  refine gl_y rfl (y_move rfl) ?_
                                  refine gl_y rfl (y_move rfl) ?_
                                  refine gl_ef (ef_callq en_53 rfl (disk_Sectors _ (B.take (64 * i) ++ zs (64 * n - 64 * i)) i n (by simp [zs_len]; omega)) (perm_one (i := 0) rfl) (fun hl I1 h1 h2 _ => dk_lend h1 h2) rfl) ?_
                                  rintro _ _ _ ⟨v102, rfl, rfl, rfl, rfl⟩
                                  refine gl_y rfl (y_lss rfl rfl) ?_
                                  refine gl_nil ?_
                                  refine gq_then' ?_
                                  refine gc_if rfl (fun h103 => ?_) (fun h103 => ?_)
                                  · have g103 := h103
                                    try (replace g103 := of_decide_eq_true g103)
                                    first
                                    | exact absurd h103 (by decide)
                                    | (exfalso; omega)
                                    | skip
                                      refine gc_skip ?_
                                      refine gq_then' ?_
                                      refine gc_seq ?_
                                      refine gc_block ?_
                                      refine gc_region ?_
                                      refine gl_y rfl (y_move rfl) ?_
                                      refine gl_y rfl (y_move rfl) ?_
                                      refine gl_y rfl (y_move rfl) ?_
                                      refine gl_y rfl (y_move rfl) ?_
                                      first | refine gl_y rfl (y_mul rfl rfl (wr_i64 (by omega) (by omega))) ?_ | refine gl_y rfl (y_mul rfl rfl rfl) ?_
                                      refine gl_y rfl (y_move rfl) ?_
                                      first | refine gl_y rfl (y_mul rfl rfl (wr_i64 (by omega) (by omega))) ?_ | refine gl_y rfl (y_mul rfl rfl rfl) ?_
                                      first | refine gl_y rfl (y_add rfl rfl (wr_i64 (by omega) (by omega))) ?_ | refine gl_y rfl (y_add rfl rfl rfl) ?_
                                      refine gl_y rfl (y_slslice Try.underlying36 sz_5 rfl rfl rfl (by omega) (by omega) (by omega) (by omega)) ?_
                                      refine gl_y rfl (y_tostr (bytes := (sec B i)) Try.underlying36 Try.underlying5 Try.underlying9 rfl (blk_own (i := 1) rfl) (by have := sec_len hn (show i < n by omega); omega) sec_hv) ?_
                                      refine gl_ef (ef_callm en_54 rfl (disk_WriteN _ (B.take (64 * i) ++ zs (64 * n - 64 * i)) i n i (sec B i) (by simp [zs_len]; omega) (by first | omega | (simp only [List.length_append, List.length_cons, List.length_nil, List.length_take, List.length_drop, List.length_map, List.length_replicate, List.length_set, u8s_length, fx_length, fixed_length, tabTo_len, tabV_len, zs_len, mk_len]; omega)) (sec_len hn (by omega)) (by first | omega | (simp only [List.length_append, List.length_cons, List.length_nil, List.length_take, List.length_drop, List.length_map, List.length_replicate, List.length_set, u8s_length, fx_length, fixed_length, tabTo_len, tabV_len, zs_len, mk_len]; omega))) (perm_one (i := 0) rfl) rfl) ?_
                                      rintro _ _ _ ⟨v116, Mc116, ⟨rfl, rfl⟩, rfl, rfl, rfl⟩
                                      refine gl_nil ?_
                                      refine gq_in_normal ?_
                                      refine gq_then' ?_
                                      refine gc_region ?_
                                      refine gl_y rfl (y_move rfl) ?_
                                      first | refine gl_y rfl (y_add rfl rfl (wr_i64 (by omega) (by omega))) ?_ | refine gl_y rfl (y_add rfl rfl rfl) ?_
                                      refine gl_y rfl (y_assign rfl) ?_
                                      refine gl_nil ?_
                                      refine gq_M (congrArg (fun z => dsk d99 z (i + 1) :: _) (fill_step hn (show i < n by omega))) ?_
                                      refine gq_roundW (i + 1) ?_ ?_ perm_same rfl (by repeat (first | exact Ext.refl | refine Ext.cons rfl ?_)) ?_
                                      · omega
                                      · (show n - (i + 1) < n - i); omega
                                      · exact ⟨rfl, trivial⟩
                                  · have g103 := h103
                                    try (replace g103 := of_decide_eq_false g103)
                                    first
                                    | exact absurd h103 (by decide)
                                    | (exfalso; omega)
                                    | skip
                                      refine gc_exit ?_
                                      refine gq_pass_exit ?_
                                      refine gq_pass_exit ?_
                                      refine gq_in_exit ?_
                                      refine gq_then' ?_
                                      refine gc_seq ?_
                                      obtain rfl : n = i := by omega
                                      refine gc_weak 0 rfl (dsk_weak (F' := B) (k' := n) (by rw [List.take_of_length_le (by omega), Nat.sub_self]; simp [zs]) (Nat.le_refl _)) ?_
                                      refine gc_region ?_
                                      refine gl_y rfl (y_loadA ag_63 sz_63 rfl (blk_own (i := 3) rfl) (vs := tabV) tabV_len (at_all tabV)) ?_
                                      refine gl_y rfl (y_move rfl) ?_
                                      refine gl_ef (ef_callm en_44 rfl (log_Open _ B n n hn (by first | omega | (simp only [List.length_append, List.length_cons, List.length_nil, List.length_take, List.length_drop, List.length_map, List.length_replicate, List.length_set, u8s_length, fx_length, fixed_length, tabTo_len, tabV_len, zs_len, mk_len]; omega)) (by first | omega | (simp only [List.length_append, List.length_cons, List.length_nil, List.length_take, List.length_drop, List.length_map, List.length_replicate, List.length_set, u8s_length, fx_length, fixed_length, tabTo_len, tabV_len, zs_len, mk_len]; omega))) (perm_one (i := 0) rfl) rfl) ?_
                                      rintro _ _ _ ⟨v120, Mc120, ⟨l120, A120, rfl, rfl⟩, rfl, rfl, rfl⟩
                                      refine gl_y rfl (y_move rfl) ?_
                                      refine gl_y rfl (y_extract rfl rfl) ?_
                                      refine gl_y rfl (y_extract rfl rfl) ?_
                                      refine gl_y rfl (y_extract rfl rfl) ?_
                                      refine gl_y rfl (y_assign rfl) ?_
                                      refine gl_y rfl (y_assign rfl) ?_
                                      refine gl_y rfl (y_assign rfl) ?_
                                      refine gl_nil ?_
                                      refine gq_then' ?_
                                      refine gc_seq ?_
                                      refine gc_region_draw (N := 35) [] rfl follows_mixed (by repeat (first | exact panicOk_body | refine panicOk_then ?_ | refine panicOk_in ?_)) (by kernel_rfl) ?_ ?_
                                      · trivial
                                      · skip
                                        refine ga_y 0 rfl (by kernel_rfl) (by kernel_rfl) rfl (y_move rfl) ?_
                                        refine ga_y 1 rfl (by kernel_rfl) (by kernel_rfl) rfl (y_eql rfl rfl) ?_
                                        refine ga_y 2 rfl (by kernel_rfl) (by kernel_rfl) rfl (y_move rfl) ?_
                                        refine ga_want 3 rfl rfl rfl rfl rfl (by kernel_rfl) (by kernel_rfl) rfl (y_move rfl) ?_
                                        refine ga_want 4 rfl rfl rfl rfl rfl (by kernel_rfl) (by kernel_rfl) rfl (y_move rfl) ?_
                                        refine ga_all1 (i := 5) (by kernel_rfl) ?_
                                        · skip
                                          refine gb_ef_want rfl rfl rfl rfl rfl (ef_callq en_49 rfl (ref_Same08 _ _ (standsF B) (by have := stands_le B; omega)) (perm_two (i := 2) (j := 3) rfl rfl) (fun hl I1 h1 h2 _ => ks_lend2 h1 h2) rfl) ?_
                                          rintro _ _ _ ⟨v129, rfl, rfl, rfl, rfl⟩
                                          refine ⟨sat_S (bl := []) trivial, ?_⟩
                                          refine ga_y 6 rfl (by kernel_rfl) (by kernel_rfl) rfl (y_pick_t rfl rfl rfl) ?_
                                          refine ga_y 7 rfl (by kernel_rfl) (by kernel_rfl) rfl (y_move rfl) ?_
                                          refine ga_want 8 rfl rfl rfl rfl rfl (by kernel_rfl) (by kernel_rfl) rfl (y_move rfl) ?_
                                          refine ga_want 10 rfl rfl rfl rfl rfl (by kernel_rfl) (by kernel_rfl) rfl (y_move rfl) ?_
                                          refine ga_all1 (i := 9) (by kernel_rfl) ?_
                                          · skip
                                            refine gb_ef_want rfl rfl rfl rfl rfl (ef_callm en_45 rfl (log_End _ _ _) (perm_one (i := 0) rfl) rfl) ?_
                                            rintro _ _ _ ⟨v133, Mc133, ⟨rfl, rfl⟩, rfl, rfl, rfl⟩
                                            refine ⟨sat_S (bl := []) trivial, ?_⟩
                                            refine ga_want 11 rfl rfl rfl rfl rfl (by kernel_rfl) (by kernel_rfl) rfl (y_eql rfl rfl) ?_
                                            refine ga_y 12 rfl (by kernel_rfl) (by kernel_rfl) rfl (y_pick_t rfl rfl rfl) ?_
                                            refine ga_y 13 rfl (by kernel_rfl) (by kernel_rfl) rfl (y_move rfl) ?_
                                            refine ga_want 14 rfl rfl rfl rfl (decide_eq_true rfl) (by kernel_rfl) (by kernel_rfl) rfl (y_move rfl) ?_
                                            refine ga_want 16 rfl rfl rfl rfl (decide_eq_true rfl) (by kernel_rfl) (by kernel_rfl) rfl (y_move rfl) ?_
                                            refine ga_want 17 rfl rfl rfl rfl (decide_eq_true rfl) (by kernel_rfl) (by kernel_rfl) rfl (y_move rfl) ?_
                                            refine ga_want 18 rfl rfl rfl rfl (decide_eq_true rfl) (by kernel_rfl) (by kernel_rfl) rfl (y_slslice_h Try.underlying36 sz_5 rfl rfl (by omega) (by have := end_le B; omega)) ?_
                                            refine ga_want 20 rfl rfl rfl rfl (decide_eq_true rfl) (by kernel_rfl) (by kernel_rfl) rfl (y_move rfl) ?_
                                            refine ga_want 21 rfl rfl rfl rfl (decide_eq_true rfl) (by kernel_rfl) (by kernel_rfl) rfl (y_len Try.underlying36 rfl) ?_
                                            refine ga_want 22 rfl rfl rfl rfl (decide_eq_true rfl) (by kernel_rfl) (by kernel_rfl) rfl (y_move rfl) ?_
                                            refine ga_want 23 rfl rfl rfl rfl (decide_eq_true rfl) (by kernel_rfl) (by kernel_rfl) rfl (y_sub rfl rfl (sub_i64 _ _ (end_le B) (by omega))) ?_
                                            refine ga_all3 (i := 15) (j := 19) (l := 24) (by kernel_rfl) ?_ ?_ ?_
                                            · skip
                                              refine gb_ef_want rfl rfl rfl rfl (decide_eq_true rfl) (ef_callq en_48 rfl (law_bytes08 _ (B.take (endF B) ++ zs (64 * n - endF B)) 0 n (by have := end_le B; simp [zs_len]; omega) (by first | omega | (simp only [List.length_append, List.length_cons, List.length_nil, List.length_take, List.length_drop, List.length_map, List.length_replicate, List.length_set, u8s_length, fx_length, fixed_length, tabTo_len, tabV_len, zs_len, mk_len]; omega)) (by first | omega | (simp only [List.length_append, List.length_cons, List.length_nil, List.length_take, List.length_drop, List.length_map, List.length_replicate, List.length_set, u8s_length, fx_length, fixed_length, tabTo_len, tabV_len, zs_len, mk_len]; omega))) (perm_one (i := 1) rfl) (fun hl I1 h1 h2 _ => dk_lend h1 h2) rfl) ?_
                                              rintro _ _ _ ⟨v139, rfl, rfl, rfl, rfl⟩
                                              refine ⟨sat_S (bl := []) trivial, ?_⟩
                                              refine ga_all2 (i := 19) (j := 24) (by kernel_rfl) ?_ ?_
                                              · skip
                                                refine gb_y_want rfl rfl rfl rfl (decide_eq_true rfl) rfl (y_tostr (bytes := (B.take (endF B))) Try.underlying36 Try.underlying5 Try.underlying9 rfl (blk_own (i := 3) rfl) (show (B.take (endF B)).length = endF B by have := end_le B; rw [List.length_take]; omega) take_hv) ?_
                                                refine ga_all1 (i := 24) (by kernel_rfl) ?_
                                                · skip
                                                  refine gb_ef_want rfl rfl rfl rfl (decide_eq_true rfl) (ef_make Try.underlying36 tf_5 (m := (B.length - endF B)) rfl rfl (by omega) (by omega) rfl) ?_
                                                  rintro _ _ _ ⟨b148, rfl, rfl, rfl⟩
                                                  refine ⟨sat_S (bl := []) trivial, ?_⟩
                                                  refine ga_all1 (i := 25) (by kernel_rfl) ?_
                                                  · skip
                                                    refine gb_y_want rfl rfl rfl rfl (decide_eq_true rfl) rfl (y_tostr (bytes := (zs (B.length - endF B))) Try.underlying36 Try.underlying5 Try.underlying9 rfl (blk_own (i := 6) rfl) (zs_len _) (made_get _)) ?_
                                                    refine ga_want 26 rfl rfl rfl rfl (decide_eq_true rfl) (by kernel_rfl) (by kernel_rfl) rfl (y_sadd rfl rfl (by first | omega | (simp only [List.length_append, List.length_cons, List.length_nil, List.length_take, List.length_drop, List.length_map, List.length_replicate, List.length_set, u8s_length, fx_length, fixed_length, tabTo_len, tabV_len, zs_len, mk_len]; omega))) ?_
                                                    refine ga_want 27 rfl rfl rfl rfl (decide_eq_true rfl) (by kernel_rfl) (by kernel_rfl) rfl (y_seql rfl rfl) ?_
                                                    refine ga_y 28 rfl (by kernel_rfl) (by kernel_rfl) rfl (y_pick_t rfl (decide_eq_true rfl) rfl) ?_
                                                    refine ga_y 29 rfl (by kernel_rfl) (by kernel_rfl) rfl (y_move rfl) ?_
                                                    refine ga_want 30 rfl rfl rfl rfl (decide_eq_true (by rw [hn])) (by kernel_rfl) (by kernel_rfl) rfl (y_move rfl) ?_
                                                    refine ga_all1 (i := 31) (by kernel_rfl) ?_
                                                    · skip
                                                      refine gb_ef_want rfl rfl rfl rfl (decide_eq_true (by rw [hn])) (ef_callq en_55 rfl (disk_Waits _ (B.take (endF B) ++ zs (64 * n - endF B)) 0 n (by have := end_le B; simp [zs_len]; omega)) (perm_one (i := 1) rfl) (fun hl I1 h1 h2 _ => dk_lend h1 h2) rfl) ?_
                                                      rintro _ _ _ ⟨v155, ⟨j155, rfl, hj155⟩, rfl, rfl, rfl⟩
                                                      refine ⟨sat_S (bl := []) trivial, ?_⟩
                                                      refine ga_want 32 rfl rfl rfl rfl (decide_eq_true (by rw [hn])) (by kernel_rfl) (by kernel_rfl) rfl (y_eql rfl rfl) ?_
                                                      refine ga_y 33 rfl (by kernel_rfl) (by kernel_rfl) rfl (y_pick_t rfl (decide_eq_true (by rw [hn])) rfl) ?_
                                                      refine ga_y 34 rfl (by kernel_rfl) (by kernel_rfl) rfl (y_assign rfl) ?_
                                                      refine ga_done (by kernel_rfl) ?_
                                                      refine gq_then' ?_
                                                      refine gc_ret ?_
                                                      refine gq_r1 rfl rfl perm_all ?_
                                                      first | exact rfl | exact congrArg Value.bool (decide_eq_true (by omega))
                                              · skip
                                                refine gb_ef_want rfl rfl rfl rfl (decide_eq_true rfl) (ef_make Try.underlying36 tf_5 (m := (B.length - endF B)) rfl rfl (by omega) (by omega) rfl) ?_
                                                rintro _ _ _ ⟨b148, rfl, rfl, rfl⟩
                                                refine ⟨sat_S (bl := []) trivial, ?_⟩
                                                refine ga_all2 (i := 19) (j := 25) (by kernel_rfl) ?_ ?_
                                                · skip
                                                  refine gb_y_want rfl rfl rfl rfl (decide_eq_true rfl) rfl (y_tostr (bytes := (B.take (endF B))) Try.underlying36 Try.underlying5 Try.underlying9 rfl (blk_own (i := 3) rfl) (show (B.take (endF B)).length = endF B by have := end_le B; rw [List.length_take]; omega) take_hv) ?_
                                                  refine ga_all1 (i := 25) (by kernel_rfl) ?_
                                                  · skip
                                                    refine gb_y_want rfl rfl rfl rfl (decide_eq_true rfl) rfl (y_tostr (bytes := (zs (B.length - endF B))) Try.underlying36 Try.underlying5 Try.underlying9 rfl (blk_own (i := 6) rfl) (zs_len _) (made_get _)) ?_
                                                    refine ga_want 26 rfl rfl rfl rfl (decide_eq_true rfl) (by kernel_rfl) (by kernel_rfl) rfl (y_sadd rfl rfl (by first | omega | (simp only [List.length_append, List.length_cons, List.length_nil, List.length_take, List.length_drop, List.length_map, List.length_replicate, List.length_set, u8s_length, fx_length, fixed_length, tabTo_len, tabV_len, zs_len, mk_len]; omega))) ?_
                                                    refine ga_want 27 rfl rfl rfl rfl (decide_eq_true rfl) (by kernel_rfl) (by kernel_rfl) rfl (y_seql rfl rfl) ?_
                                                    refine ga_y 28 rfl (by kernel_rfl) (by kernel_rfl) rfl (y_pick_t rfl (decide_eq_true rfl) rfl) ?_
                                                    refine ga_y 29 rfl (by kernel_rfl) (by kernel_rfl) rfl (y_move rfl) ?_
                                                    refine ga_want 30 rfl rfl rfl rfl (decide_eq_true (by rw [hn])) (by kernel_rfl) (by kernel_rfl) rfl (y_move rfl) ?_
                                                    refine ga_all1 (i := 31) (by kernel_rfl) ?_
                                                    · skip
                                                      refine gb_ef_want rfl rfl rfl rfl (decide_eq_true (by rw [hn])) (ef_callq en_55 rfl (disk_Waits _ (B.take (endF B) ++ zs (64 * n - endF B)) 0 n (by have := end_le B; simp [zs_len]; omega)) (perm_one (i := 1) rfl) (fun hl I1 h1 h2 _ => dk_lend h1 h2) rfl) ?_
                                                      rintro _ _ _ ⟨v155, ⟨j155, rfl, hj155⟩, rfl, rfl, rfl⟩
                                                      refine ⟨sat_S (bl := []) trivial, ?_⟩
                                                      refine ga_want 32 rfl rfl rfl rfl (decide_eq_true (by rw [hn])) (by kernel_rfl) (by kernel_rfl) rfl (y_eql rfl rfl) ?_
                                                      refine ga_y 33 rfl (by kernel_rfl) (by kernel_rfl) rfl (y_pick_t rfl (decide_eq_true (by rw [hn])) rfl) ?_
                                                      refine ga_y 34 rfl (by kernel_rfl) (by kernel_rfl) rfl (y_assign rfl) ?_
                                                      refine ga_done (by kernel_rfl) ?_
                                                      refine gq_then' ?_
                                                      refine gc_ret ?_
                                                      refine gq_r1 rfl rfl perm_all ?_
                                                      first | exact rfl | exact congrArg Value.bool (decide_eq_true (by omega))
                                                · skip
                                                  refine gb_y_want rfl rfl rfl rfl (decide_eq_true rfl) rfl (y_tostr (bytes := (zs (B.length - endF B))) Try.underlying36 Try.underlying5 Try.underlying9 rfl (blk_own (i := 6) rfl) (zs_len _) (made_get _)) ?_
                                                  refine ga_all1 (i := 19) (by kernel_rfl) ?_
                                                  · skip
                                                    refine gb_y_want rfl rfl rfl rfl (decide_eq_true rfl) rfl (y_tostr (bytes := (B.take (endF B))) Try.underlying36 Try.underlying5 Try.underlying9 rfl (blk_own (i := 3) rfl) (show (B.take (endF B)).length = endF B by have := end_le B; rw [List.length_take]; omega) take_hv) ?_
                                                    refine ga_want 26 rfl rfl rfl rfl (decide_eq_true rfl) (by kernel_rfl) (by kernel_rfl) rfl (y_sadd rfl rfl (by first | omega | (simp only [List.length_append, List.length_cons, List.length_nil, List.length_take, List.length_drop, List.length_map, List.length_replicate, List.length_set, u8s_length, fx_length, fixed_length, tabTo_len, tabV_len, zs_len, mk_len]; omega))) ?_
                                                    refine ga_want 27 rfl rfl rfl rfl (decide_eq_true rfl) (by kernel_rfl) (by kernel_rfl) rfl (y_seql rfl rfl) ?_
                                                    refine ga_y 28 rfl (by kernel_rfl) (by kernel_rfl) rfl (y_pick_t rfl (decide_eq_true rfl) rfl) ?_
                                                    refine ga_y 29 rfl (by kernel_rfl) (by kernel_rfl) rfl (y_move rfl) ?_
                                                    refine ga_want 30 rfl rfl rfl rfl (decide_eq_true (by rw [hn])) (by kernel_rfl) (by kernel_rfl) rfl (y_move rfl) ?_
                                                    refine ga_all1 (i := 31) (by kernel_rfl) ?_
                                                    · skip
                                                      refine gb_ef_want rfl rfl rfl rfl (decide_eq_true (by rw [hn])) (ef_callq en_55 rfl (disk_Waits _ (B.take (endF B) ++ zs (64 * n - endF B)) 0 n (by have := end_le B; simp [zs_len]; omega)) (perm_one (i := 1) rfl) (fun hl I1 h1 h2 _ => dk_lend h1 h2) rfl) ?_
                                                      rintro _ _ _ ⟨v155, ⟨j155, rfl, hj155⟩, rfl, rfl, rfl⟩
                                                      refine ⟨sat_S (bl := []) trivial, ?_⟩
                                                      refine ga_want 32 rfl rfl rfl rfl (decide_eq_true (by rw [hn])) (by kernel_rfl) (by kernel_rfl) rfl (y_eql rfl rfl) ?_
                                                      refine ga_y 33 rfl (by kernel_rfl) (by kernel_rfl) rfl (y_pick_t rfl (decide_eq_true (by rw [hn])) rfl) ?_
                                                      refine ga_y 34 rfl (by kernel_rfl) (by kernel_rfl) rfl (y_assign rfl) ?_
                                                      refine ga_done (by kernel_rfl) ?_
                                                      refine gq_then' ?_
                                                      refine gc_ret ?_
                                                      refine gq_r1 rfl rfl perm_all ?_
                                                      first | exact rfl | exact congrArg Value.bool (decide_eq_true (by omega))
                                            · skip
                                              refine gb_y_want rfl rfl rfl rfl (decide_eq_true rfl) rfl (y_tostr (bytes := (B.take (endF B))) Try.underlying36 Try.underlying5 Try.underlying9 rfl (blk_own (i := 3) rfl) (show (B.take (endF B)).length = endF B by have := end_le B; rw [List.length_take]; omega) take_hv) ?_
                                              refine ga_all2 (i := 15) (j := 24) (by kernel_rfl) ?_ ?_
                                              · skip
                                                refine gb_ef_want rfl rfl rfl rfl (decide_eq_true rfl) (ef_callq en_48 rfl (law_bytes08 _ (B.take (endF B) ++ zs (64 * n - endF B)) 0 n (by have := end_le B; simp [zs_len]; omega) (by first | omega | (simp only [List.length_append, List.length_cons, List.length_nil, List.length_take, List.length_drop, List.length_map, List.length_replicate, List.length_set, u8s_length, fx_length, fixed_length, tabTo_len, tabV_len, zs_len, mk_len]; omega)) (by first | omega | (simp only [List.length_append, List.length_cons, List.length_nil, List.length_take, List.length_drop, List.length_map, List.length_replicate, List.length_set, u8s_length, fx_length, fixed_length, tabTo_len, tabV_len, zs_len, mk_len]; omega))) (perm_one (i := 1) rfl) (fun hl I1 h1 h2 _ => dk_lend h1 h2) rfl) ?_
                                                rintro _ _ _ ⟨v139, rfl, rfl, rfl, rfl⟩
                                                refine ⟨sat_S (bl := []) trivial, ?_⟩
                                                refine ga_all1 (i := 24) (by kernel_rfl) ?_
                                                · skip
                                                  refine gb_ef_want rfl rfl rfl rfl (decide_eq_true rfl) (ef_make Try.underlying36 tf_5 (m := (B.length - endF B)) rfl rfl (by omega) (by omega) rfl) ?_
                                                  rintro _ _ _ ⟨b148, rfl, rfl, rfl⟩
                                                  refine ⟨sat_S (bl := []) trivial, ?_⟩
                                                  refine ga_all1 (i := 25) (by kernel_rfl) ?_
                                                  · skip
                                                    refine gb_y_want rfl rfl rfl rfl (decide_eq_true rfl) rfl (y_tostr (bytes := (zs (B.length - endF B))) Try.underlying36 Try.underlying5 Try.underlying9 rfl (blk_own (i := 6) rfl) (zs_len _) (made_get _)) ?_
                                                    refine ga_want 26 rfl rfl rfl rfl (decide_eq_true rfl) (by kernel_rfl) (by kernel_rfl) rfl (y_sadd rfl rfl (by first | omega | (simp only [List.length_append, List.length_cons, List.length_nil, List.length_take, List.length_drop, List.length_map, List.length_replicate, List.length_set, u8s_length, fx_length, fixed_length, tabTo_len, tabV_len, zs_len, mk_len]; omega))) ?_
                                                    refine ga_want 27 rfl rfl rfl rfl (decide_eq_true rfl) (by kernel_rfl) (by kernel_rfl) rfl (y_seql rfl rfl) ?_
                                                    refine ga_y 28 rfl (by kernel_rfl) (by kernel_rfl) rfl (y_pick_t rfl (decide_eq_true rfl) rfl) ?_
                                                    refine ga_y 29 rfl (by kernel_rfl) (by kernel_rfl) rfl (y_move rfl) ?_
                                                    refine ga_want 30 rfl rfl rfl rfl (decide_eq_true (by rw [hn])) (by kernel_rfl) (by kernel_rfl) rfl (y_move rfl) ?_
                                                    refine ga_all1 (i := 31) (by kernel_rfl) ?_
                                                    · skip
                                                      refine gb_ef_want rfl rfl rfl rfl (decide_eq_true (by rw [hn])) (ef_callq en_55 rfl (disk_Waits _ (B.take (endF B) ++ zs (64 * n - endF B)) 0 n (by have := end_le B; simp [zs_len]; omega)) (perm_one (i := 1) rfl) (fun hl I1 h1 h2 _ => dk_lend h1 h2) rfl) ?_
                                                      rintro _ _ _ ⟨v155, ⟨j155, rfl, hj155⟩, rfl, rfl, rfl⟩
                                                      refine ⟨sat_S (bl := []) trivial, ?_⟩
                                                      refine ga_want 32 rfl rfl rfl rfl (decide_eq_true (by rw [hn])) (by kernel_rfl) (by kernel_rfl) rfl (y_eql rfl rfl) ?_
                                                      refine ga_y 33 rfl (by kernel_rfl) (by kernel_rfl) rfl (y_pick_t rfl (decide_eq_true (by rw [hn])) rfl) ?_
                                                      refine ga_y 34 rfl (by kernel_rfl) (by kernel_rfl) rfl (y_assign rfl) ?_
                                                      refine ga_done (by kernel_rfl) ?_
                                                      refine gq_then' ?_
                                                      refine gc_ret ?_
                                                      refine gq_r1 rfl rfl perm_all ?_
                                                      first | exact rfl | exact congrArg Value.bool (decide_eq_true (by omega))
                                              · skip
                                                refine gb_ef_want rfl rfl rfl rfl (decide_eq_true rfl) (ef_make Try.underlying36 tf_5 (m := (B.length - endF B)) rfl rfl (by omega) (by omega) rfl) ?_
                                                rintro _ _ _ ⟨b148, rfl, rfl, rfl⟩
                                                refine ⟨sat_S (bl := []) trivial, ?_⟩
                                                refine ga_all2 (i := 15) (j := 25) (by kernel_rfl) ?_ ?_
                                                · skip
                                                  refine gb_ef_want rfl rfl rfl rfl (decide_eq_true rfl) (ef_callq en_48 rfl (law_bytes08 _ (B.take (endF B) ++ zs (64 * n - endF B)) 0 n (by have := end_le B; simp [zs_len]; omega) (by first | omega | (simp only [List.length_append, List.length_cons, List.length_nil, List.length_take, List.length_drop, List.length_map, List.length_replicate, List.length_set, u8s_length, fx_length, fixed_length, tabTo_len, tabV_len, zs_len, mk_len]; omega)) (by first | omega | (simp only [List.length_append, List.length_cons, List.length_nil, List.length_take, List.length_drop, List.length_map, List.length_replicate, List.length_set, u8s_length, fx_length, fixed_length, tabTo_len, tabV_len, zs_len, mk_len]; omega))) (perm_one (i := 1) rfl) (fun hl I1 h1 h2 _ => dk_lend h1 h2) rfl) ?_
                                                  rintro _ _ _ ⟨v139, rfl, rfl, rfl, rfl⟩
                                                  refine ⟨sat_S (bl := []) trivial, ?_⟩
                                                  refine ga_all1 (i := 25) (by kernel_rfl) ?_
                                                  · skip
                                                    refine gb_y_want rfl rfl rfl rfl (decide_eq_true rfl) rfl (y_tostr (bytes := (zs (B.length - endF B))) Try.underlying36 Try.underlying5 Try.underlying9 rfl (blk_own (i := 6) rfl) (zs_len _) (made_get _)) ?_
                                                    refine ga_want 26 rfl rfl rfl rfl (decide_eq_true rfl) (by kernel_rfl) (by kernel_rfl) rfl (y_sadd rfl rfl (by first | omega | (simp only [List.length_append, List.length_cons, List.length_nil, List.length_take, List.length_drop, List.length_map, List.length_replicate, List.length_set, u8s_length, fx_length, fixed_length, tabTo_len, tabV_len, zs_len, mk_len]; omega))) ?_
                                                    refine ga_want 27 rfl rfl rfl rfl (decide_eq_true rfl) (by kernel_rfl) (by kernel_rfl) rfl (y_seql rfl rfl) ?_
                                                    refine ga_y 28 rfl (by kernel_rfl) (by kernel_rfl) rfl (y_pick_t rfl (decide_eq_true rfl) rfl) ?_
                                                    refine ga_y 29 rfl (by kernel_rfl) (by kernel_rfl) rfl (y_move rfl) ?_
                                                    refine ga_want 30 rfl rfl rfl rfl (decide_eq_true (by rw [hn])) (by kernel_rfl) (by kernel_rfl) rfl (y_move rfl) ?_
                                                    refine ga_all1 (i := 31) (by kernel_rfl) ?_
                                                    · skip
                                                      refine gb_ef_want rfl rfl rfl rfl (decide_eq_true (by rw [hn])) (ef_callq en_55 rfl (disk_Waits _ (B.take (endF B) ++ zs (64 * n - endF B)) 0 n (by have := end_le B; simp [zs_len]; omega)) (perm_one (i := 1) rfl) (fun hl I1 h1 h2 _ => dk_lend h1 h2) rfl) ?_
                                                      rintro _ _ _ ⟨v155, ⟨j155, rfl, hj155⟩, rfl, rfl, rfl⟩
                                                      refine ⟨sat_S (bl := []) trivial, ?_⟩
                                                      refine ga_want 32 rfl rfl rfl rfl (decide_eq_true (by rw [hn])) (by kernel_rfl) (by kernel_rfl) rfl (y_eql rfl rfl) ?_
                                                      refine ga_y 33 rfl (by kernel_rfl) (by kernel_rfl) rfl (y_pick_t rfl (decide_eq_true (by rw [hn])) rfl) ?_
                                                      refine ga_y 34 rfl (by kernel_rfl) (by kernel_rfl) rfl (y_assign rfl) ?_
                                                      refine ga_done (by kernel_rfl) ?_
                                                      refine gq_then' ?_
                                                      refine gc_ret ?_
                                                      refine gq_r1 rfl rfl perm_all ?_
                                                      first | exact rfl | exact congrArg Value.bool (decide_eq_true (by omega))
                                                · skip
                                                  refine gb_y_want rfl rfl rfl rfl (decide_eq_true rfl) rfl (y_tostr (bytes := (zs (B.length - endF B))) Try.underlying36 Try.underlying5 Try.underlying9 rfl (blk_own (i := 6) rfl) (zs_len _) (made_get _)) ?_
                                                  refine ga_want 26 rfl rfl rfl rfl (decide_eq_true rfl) (by kernel_rfl) (by kernel_rfl) rfl (y_sadd rfl rfl (by first | omega | (simp only [List.length_append, List.length_cons, List.length_nil, List.length_take, List.length_drop, List.length_map, List.length_replicate, List.length_set, u8s_length, fx_length, fixed_length, tabTo_len, tabV_len, zs_len, mk_len]; omega))) ?_
                                                  refine ga_all1 (i := 15) (by kernel_rfl) ?_
                                                  · skip
                                                    refine gb_ef_want rfl rfl rfl rfl (decide_eq_true rfl) (ef_callq en_48 rfl (law_bytes08 _ (B.take (endF B) ++ zs (64 * n - endF B)) 0 n (by have := end_le B; simp [zs_len]; omega) (by first | omega | (simp only [List.length_append, List.length_cons, List.length_nil, List.length_take, List.length_drop, List.length_map, List.length_replicate, List.length_set, u8s_length, fx_length, fixed_length, tabTo_len, tabV_len, zs_len, mk_len]; omega)) (by first | omega | (simp only [List.length_append, List.length_cons, List.length_nil, List.length_take, List.length_drop, List.length_map, List.length_replicate, List.length_set, u8s_length, fx_length, fixed_length, tabTo_len, tabV_len, zs_len, mk_len]; omega))) (perm_one (i := 1) rfl) (fun hl I1 h1 h2 _ => dk_lend h1 h2) rfl) ?_
                                                    rintro _ _ _ ⟨v139, rfl, rfl, rfl, rfl⟩
                                                    refine ⟨sat_S (bl := []) trivial, ?_⟩
                                                    refine ga_want 27 rfl rfl rfl rfl (decide_eq_true rfl) (by kernel_rfl) (by kernel_rfl) rfl (y_seql rfl rfl) ?_
                                                    refine ga_y 28 rfl (by kernel_rfl) (by kernel_rfl) rfl (y_pick_t rfl (decide_eq_true rfl) rfl) ?_
                                                    refine ga_y 29 rfl (by kernel_rfl) (by kernel_rfl) rfl (y_move rfl) ?_
                                                    refine ga_want 30 rfl rfl rfl rfl (decide_eq_true (by rw [hn])) (by kernel_rfl) (by kernel_rfl) rfl (y_move rfl) ?_
                                                    refine ga_all1 (i := 31) (by kernel_rfl) ?_
                                                    · skip
                                                      refine gb_ef_want rfl rfl rfl rfl (decide_eq_true (by rw [hn])) (ef_callq en_55 rfl (disk_Waits _ (B.take (endF B) ++ zs (64 * n - endF B)) 0 n (by have := end_le B; simp [zs_len]; omega)) (perm_one (i := 1) rfl) (fun hl I1 h1 h2 _ => dk_lend h1 h2) rfl) ?_
                                                      rintro _ _ _ ⟨v155, ⟨j155, rfl, hj155⟩, rfl, rfl, rfl⟩
                                                      refine ⟨sat_S (bl := []) trivial, ?_⟩
                                                      refine ga_want 32 rfl rfl rfl rfl (decide_eq_true (by rw [hn])) (by kernel_rfl) (by kernel_rfl) rfl (y_eql rfl rfl) ?_
                                                      refine ga_y 33 rfl (by kernel_rfl) (by kernel_rfl) rfl (y_pick_t rfl (decide_eq_true (by rw [hn])) rfl) ?_
                                                      refine ga_y 34 rfl (by kernel_rfl) (by kernel_rfl) rfl (y_assign rfl) ?_
                                                      refine ga_done (by kernel_rfl) ?_
                                                      refine gq_then' ?_
                                                      refine gc_ret ?_
                                                      refine gq_r1 rfl rfl perm_all ?_
                                                      first | exact rfl | exact congrArg Value.bool (decide_eq_true (by omega))
                                            · skip
                                              refine gb_ef_want rfl rfl rfl rfl (decide_eq_true rfl) (ef_make Try.underlying36 tf_5 (m := (B.length - endF B)) rfl rfl (by omega) (by omega) rfl) ?_
                                              rintro _ _ _ ⟨b148, rfl, rfl, rfl⟩
                                              refine ⟨sat_S (bl := []) trivial, ?_⟩
                                              refine ga_all3 (i := 15) (j := 19) (l := 25) (by kernel_rfl) ?_ ?_ ?_
                                              · skip
                                                refine gb_ef_want rfl rfl rfl rfl (decide_eq_true rfl) (ef_callq en_48 rfl (law_bytes08 _ (B.take (endF B) ++ zs (64 * n - endF B)) 0 n (by have := end_le B; simp [zs_len]; omega) (by first | omega | (simp only [List.length_append, List.length_cons, List.length_nil, List.length_take, List.length_drop, List.length_map, List.length_replicate, List.length_set, u8s_length, fx_length, fixed_length, tabTo_len, tabV_len, zs_len, mk_len]; omega)) (by first | omega | (simp only [List.length_append, List.length_cons, List.length_nil, List.length_take, List.length_drop, List.length_map, List.length_replicate, List.length_set, u8s_length, fx_length, fixed_length, tabTo_len, tabV_len, zs_len, mk_len]; omega))) (perm_one (i := 1) rfl) (fun hl I1 h1 h2 _ => dk_lend h1 h2) rfl) ?_
                                                rintro _ _ _ ⟨v139, rfl, rfl, rfl, rfl⟩
                                                refine ⟨sat_S (bl := []) trivial, ?_⟩
                                                refine ga_all2 (i := 19) (j := 25) (by kernel_rfl) ?_ ?_
                                                · skip
                                                  refine gb_y_want rfl rfl rfl rfl (decide_eq_true rfl) rfl (y_tostr (bytes := (B.take (endF B))) Try.underlying36 Try.underlying5 Try.underlying9 rfl (blk_own (i := 3) rfl) (show (B.take (endF B)).length = endF B by have := end_le B; rw [List.length_take]; omega) take_hv) ?_
                                                  refine ga_all1 (i := 25) (by kernel_rfl) ?_
                                                  · skip
                                                    refine gb_y_want rfl rfl rfl rfl (decide_eq_true rfl) rfl (y_tostr (bytes := (zs (B.length - endF B))) Try.underlying36 Try.underlying5 Try.underlying9 rfl (blk_own (i := 6) rfl) (zs_len _) (made_get _)) ?_
                                                    refine ga_want 26 rfl rfl rfl rfl (decide_eq_true rfl) (by kernel_rfl) (by kernel_rfl) rfl (y_sadd rfl rfl (by first | omega | (simp only [List.length_append, List.length_cons, List.length_nil, List.length_take, List.length_drop, List.length_map, List.length_replicate, List.length_set, u8s_length, fx_length, fixed_length, tabTo_len, tabV_len, zs_len, mk_len]; omega))) ?_
                                                    refine ga_want 27 rfl rfl rfl rfl (decide_eq_true rfl) (by kernel_rfl) (by kernel_rfl) rfl (y_seql rfl rfl) ?_
                                                    refine ga_y 28 rfl (by kernel_rfl) (by kernel_rfl) rfl (y_pick_t rfl (decide_eq_true rfl) rfl) ?_
                                                    refine ga_y 29 rfl (by kernel_rfl) (by kernel_rfl) rfl (y_move rfl) ?_
                                                    refine ga_want 30 rfl rfl rfl rfl (decide_eq_true (by rw [hn])) (by kernel_rfl) (by kernel_rfl) rfl (y_move rfl) ?_
                                                    refine ga_all1 (i := 31) (by kernel_rfl) ?_
                                                    · skip
                                                      refine gb_ef_want rfl rfl rfl rfl (decide_eq_true (by rw [hn])) (ef_callq en_55 rfl (disk_Waits _ (B.take (endF B) ++ zs (64 * n - endF B)) 0 n (by have := end_le B; simp [zs_len]; omega)) (perm_one (i := 1) rfl) (fun hl I1 h1 h2 _ => dk_lend h1 h2) rfl) ?_
                                                      rintro _ _ _ ⟨v155, ⟨j155, rfl, hj155⟩, rfl, rfl, rfl⟩
                                                      refine ⟨sat_S (bl := []) trivial, ?_⟩
                                                      refine ga_want 32 rfl rfl rfl rfl (decide_eq_true (by rw [hn])) (by kernel_rfl) (by kernel_rfl) rfl (y_eql rfl rfl) ?_
                                                      refine ga_y 33 rfl (by kernel_rfl) (by kernel_rfl) rfl (y_pick_t rfl (decide_eq_true (by rw [hn])) rfl) ?_
                                                      refine ga_y 34 rfl (by kernel_rfl) (by kernel_rfl) rfl (y_assign rfl) ?_
                                                      refine ga_done (by kernel_rfl) ?_
                                                      refine gq_then' ?_
                                                      refine gc_ret ?_
                                                      refine gq_r1 rfl rfl perm_all ?_
                                                      first | exact rfl | exact congrArg Value.bool (decide_eq_true (by omega))
                                                · skip
                                                  refine gb_y_want rfl rfl rfl rfl (decide_eq_true rfl) rfl (y_tostr (bytes := (zs (B.length - endF B))) Try.underlying36 Try.underlying5 Try.underlying9 rfl (blk_own (i := 6) rfl) (zs_len _) (made_get _)) ?_
                                                  refine ga_all1 (i := 19) (by kernel_rfl) ?_
                                                  · skip
                                                    refine gb_y_want rfl rfl rfl rfl (decide_eq_true rfl) rfl (y_tostr (bytes := (B.take (endF B))) Try.underlying36 Try.underlying5 Try.underlying9 rfl (blk_own (i := 3) rfl) (show (B.take (endF B)).length = endF B by have := end_le B; rw [List.length_take]; omega) take_hv) ?_
                                                    refine ga_want 26 rfl rfl rfl rfl (decide_eq_true rfl) (by kernel_rfl) (by kernel_rfl) rfl (y_sadd rfl rfl (by first | omega | (simp only [List.length_append, List.length_cons, List.length_nil, List.length_take, List.length_drop, List.length_map, List.length_replicate, List.length_set, u8s_length, fx_length, fixed_length, tabTo_len, tabV_len, zs_len, mk_len]; omega))) ?_
                                                    refine ga_want 27 rfl rfl rfl rfl (decide_eq_true rfl) (by kernel_rfl) (by kernel_rfl) rfl (y_seql rfl rfl) ?_
                                                    refine ga_y 28 rfl (by kernel_rfl) (by kernel_rfl) rfl (y_pick_t rfl (decide_eq_true rfl) rfl) ?_
                                                    refine ga_y 29 rfl (by kernel_rfl) (by kernel_rfl) rfl (y_move rfl) ?_
                                                    refine ga_want 30 rfl rfl rfl rfl (decide_eq_true (by rw [hn])) (by kernel_rfl) (by kernel_rfl) rfl (y_move rfl) ?_
                                                    refine ga_all1 (i := 31) (by kernel_rfl) ?_
                                                    · skip
                                                      refine gb_ef_want rfl rfl rfl rfl (decide_eq_true (by rw [hn])) (ef_callq en_55 rfl (disk_Waits _ (B.take (endF B) ++ zs (64 * n - endF B)) 0 n (by have := end_le B; simp [zs_len]; omega)) (perm_one (i := 1) rfl) (fun hl I1 h1 h2 _ => dk_lend h1 h2) rfl) ?_
                                                      rintro _ _ _ ⟨v155, ⟨j155, rfl, hj155⟩, rfl, rfl, rfl⟩
                                                      refine ⟨sat_S (bl := []) trivial, ?_⟩
                                                      refine ga_want 32 rfl rfl rfl rfl (decide_eq_true (by rw [hn])) (by kernel_rfl) (by kernel_rfl) rfl (y_eql rfl rfl) ?_
                                                      refine ga_y 33 rfl (by kernel_rfl) (by kernel_rfl) rfl (y_pick_t rfl (decide_eq_true (by rw [hn])) rfl) ?_
                                                      refine ga_y 34 rfl (by kernel_rfl) (by kernel_rfl) rfl (y_assign rfl) ?_
                                                      refine ga_done (by kernel_rfl) ?_
                                                      refine gq_then' ?_
                                                      refine gc_ret ?_
                                                      refine gq_r1 rfl rfl perm_all ?_
                                                      first | exact rfl | exact congrArg Value.bool (decide_eq_true (by omega))
                                              · skip
                                                refine gb_y_want rfl rfl rfl rfl (decide_eq_true rfl) rfl (y_tostr (bytes := (B.take (endF B))) Try.underlying36 Try.underlying5 Try.underlying9 rfl (blk_own (i := 3) rfl) (show (B.take (endF B)).length = endF B by have := end_le B; rw [List.length_take]; omega) take_hv) ?_
                                                refine ga_all2 (i := 15) (j := 25) (by kernel_rfl) ?_ ?_
                                                · skip
                                                  refine gb_ef_want rfl rfl rfl rfl (decide_eq_true rfl) (ef_callq en_48 rfl (law_bytes08 _ (B.take (endF B) ++ zs (64 * n - endF B)) 0 n (by have := end_le B; simp [zs_len]; omega) (by first | omega | (simp only [List.length_append, List.length_cons, List.length_nil, List.length_take, List.length_drop, List.length_map, List.length_replicate, List.length_set, u8s_length, fx_length, fixed_length, tabTo_len, tabV_len, zs_len, mk_len]; omega)) (by first | omega | (simp only [List.length_append, List.length_cons, List.length_nil, List.length_take, List.length_drop, List.length_map, List.length_replicate, List.length_set, u8s_length, fx_length, fixed_length, tabTo_len, tabV_len, zs_len, mk_len]; omega))) (perm_one (i := 1) rfl) (fun hl I1 h1 h2 _ => dk_lend h1 h2) rfl) ?_
                                                  rintro _ _ _ ⟨v139, rfl, rfl, rfl, rfl⟩
                                                  refine ⟨sat_S (bl := []) trivial, ?_⟩
                                                  refine ga_all1 (i := 25) (by kernel_rfl) ?_
                                                  · skip
                                                    refine gb_y_want rfl rfl rfl rfl (decide_eq_true rfl) rfl (y_tostr (bytes := (zs (B.length - endF B))) Try.underlying36 Try.underlying5 Try.underlying9 rfl (blk_own (i := 6) rfl) (zs_len _) (made_get _)) ?_
                                                    refine ga_want 26 rfl rfl rfl rfl (decide_eq_true rfl) (by kernel_rfl) (by kernel_rfl) rfl (y_sadd rfl rfl (by first | omega | (simp only [List.length_append, List.length_cons, List.length_nil, List.length_take, List.length_drop, List.length_map, List.length_replicate, List.length_set, u8s_length, fx_length, fixed_length, tabTo_len, tabV_len, zs_len, mk_len]; omega))) ?_
                                                    refine ga_want 27 rfl rfl rfl rfl (decide_eq_true rfl) (by kernel_rfl) (by kernel_rfl) rfl (y_seql rfl rfl) ?_
                                                    refine ga_y 28 rfl (by kernel_rfl) (by kernel_rfl) rfl (y_pick_t rfl (decide_eq_true rfl) rfl) ?_
                                                    refine ga_y 29 rfl (by kernel_rfl) (by kernel_rfl) rfl (y_move rfl) ?_
                                                    refine ga_want 30 rfl rfl rfl rfl (decide_eq_true (by rw [hn])) (by kernel_rfl) (by kernel_rfl) rfl (y_move rfl) ?_
                                                    refine ga_all1 (i := 31) (by kernel_rfl) ?_
                                                    · skip
                                                      refine gb_ef_want rfl rfl rfl rfl (decide_eq_true (by rw [hn])) (ef_callq en_55 rfl (disk_Waits _ (B.take (endF B) ++ zs (64 * n - endF B)) 0 n (by have := end_le B; simp [zs_len]; omega)) (perm_one (i := 1) rfl) (fun hl I1 h1 h2 _ => dk_lend h1 h2) rfl) ?_
                                                      rintro _ _ _ ⟨v155, ⟨j155, rfl, hj155⟩, rfl, rfl, rfl⟩
                                                      refine ⟨sat_S (bl := []) trivial, ?_⟩
                                                      refine ga_want 32 rfl rfl rfl rfl (decide_eq_true (by rw [hn])) (by kernel_rfl) (by kernel_rfl) rfl (y_eql rfl rfl) ?_
                                                      refine ga_y 33 rfl (by kernel_rfl) (by kernel_rfl) rfl (y_pick_t rfl (decide_eq_true (by rw [hn])) rfl) ?_
                                                      refine ga_y 34 rfl (by kernel_rfl) (by kernel_rfl) rfl (y_assign rfl) ?_
                                                      refine ga_done (by kernel_rfl) ?_
                                                      refine gq_then' ?_
                                                      refine gc_ret ?_
                                                      refine gq_r1 rfl rfl perm_all ?_
                                                      first | exact rfl | exact congrArg Value.bool (decide_eq_true (by omega))
                                                · skip
                                                  refine gb_y_want rfl rfl rfl rfl (decide_eq_true rfl) rfl (y_tostr (bytes := (zs (B.length - endF B))) Try.underlying36 Try.underlying5 Try.underlying9 rfl (blk_own (i := 6) rfl) (zs_len _) (made_get _)) ?_
                                                  refine ga_want 26 rfl rfl rfl rfl (decide_eq_true rfl) (by kernel_rfl) (by kernel_rfl) rfl (y_sadd rfl rfl (by first | omega | (simp only [List.length_append, List.length_cons, List.length_nil, List.length_take, List.length_drop, List.length_map, List.length_replicate, List.length_set, u8s_length, fx_length, fixed_length, tabTo_len, tabV_len, zs_len, mk_len]; omega))) ?_
                                                  refine ga_all1 (i := 15) (by kernel_rfl) ?_
                                                  · skip
                                                    refine gb_ef_want rfl rfl rfl rfl (decide_eq_true rfl) (ef_callq en_48 rfl (law_bytes08 _ (B.take (endF B) ++ zs (64 * n - endF B)) 0 n (by have := end_le B; simp [zs_len]; omega) (by first | omega | (simp only [List.length_append, List.length_cons, List.length_nil, List.length_take, List.length_drop, List.length_map, List.length_replicate, List.length_set, u8s_length, fx_length, fixed_length, tabTo_len, tabV_len, zs_len, mk_len]; omega)) (by first | omega | (simp only [List.length_append, List.length_cons, List.length_nil, List.length_take, List.length_drop, List.length_map, List.length_replicate, List.length_set, u8s_length, fx_length, fixed_length, tabTo_len, tabV_len, zs_len, mk_len]; omega))) (perm_one (i := 1) rfl) (fun hl I1 h1 h2 _ => dk_lend h1 h2) rfl) ?_
                                                    rintro _ _ _ ⟨v139, rfl, rfl, rfl, rfl⟩
                                                    refine ⟨sat_S (bl := []) trivial, ?_⟩
                                                    refine ga_want 27 rfl rfl rfl rfl (decide_eq_true rfl) (by kernel_rfl) (by kernel_rfl) rfl (y_seql rfl rfl) ?_
                                                    refine ga_y 28 rfl (by kernel_rfl) (by kernel_rfl) rfl (y_pick_t rfl (decide_eq_true rfl) rfl) ?_
                                                    refine ga_y 29 rfl (by kernel_rfl) (by kernel_rfl) rfl (y_move rfl) ?_
                                                    refine ga_want 30 rfl rfl rfl rfl (decide_eq_true (by rw [hn])) (by kernel_rfl) (by kernel_rfl) rfl (y_move rfl) ?_
                                                    refine ga_all1 (i := 31) (by kernel_rfl) ?_
                                                    · skip
                                                      refine gb_ef_want rfl rfl rfl rfl (decide_eq_true (by rw [hn])) (ef_callq en_55 rfl (disk_Waits _ (B.take (endF B) ++ zs (64 * n - endF B)) 0 n (by have := end_le B; simp [zs_len]; omega)) (perm_one (i := 1) rfl) (fun hl I1 h1 h2 _ => dk_lend h1 h2) rfl) ?_
                                                      rintro _ _ _ ⟨v155, ⟨j155, rfl, hj155⟩, rfl, rfl, rfl⟩
                                                      refine ⟨sat_S (bl := []) trivial, ?_⟩
                                                      refine ga_want 32 rfl rfl rfl rfl (decide_eq_true (by rw [hn])) (by kernel_rfl) (by kernel_rfl) rfl (y_eql rfl rfl) ?_
                                                      refine ga_y 33 rfl (by kernel_rfl) (by kernel_rfl) rfl (y_pick_t rfl (decide_eq_true (by rw [hn])) rfl) ?_
                                                      refine ga_y 34 rfl (by kernel_rfl) (by kernel_rfl) rfl (y_assign rfl) ?_
                                                      refine ga_done (by kernel_rfl) ?_
                                                      refine gq_then' ?_
                                                      refine gc_ret ?_
                                                      refine gq_r1 rfl rfl perm_all ?_
                                                      first | exact rfl | exact congrArg Value.bool (decide_eq_true (by omega))
                                              · skip
                                                refine gb_y_want rfl rfl rfl rfl (decide_eq_true rfl) rfl (y_tostr (bytes := (zs (B.length - endF B))) Try.underlying36 Try.underlying5 Try.underlying9 rfl (blk_own (i := 6) rfl) (zs_len _) (made_get _)) ?_
                                                refine ga_all2 (i := 15) (j := 19) (by kernel_rfl) ?_ ?_
                                                · skip
                                                  refine gb_ef_want rfl rfl rfl rfl (decide_eq_true rfl) (ef_callq en_48 rfl (law_bytes08 _ (B.take (endF B) ++ zs (64 * n - endF B)) 0 n (by have := end_le B; simp [zs_len]; omega) (by first | omega | (simp only [List.length_append, List.length_cons, List.length_nil, List.length_take, List.length_drop, List.length_map, List.length_replicate, List.length_set, u8s_length, fx_length, fixed_length, tabTo_len, tabV_len, zs_len, mk_len]; omega)) (by first | omega | (simp only [List.length_append, List.length_cons, List.length_nil, List.length_take, List.length_drop, List.length_map, List.length_replicate, List.length_set, u8s_length, fx_length, fixed_length, tabTo_len, tabV_len, zs_len, mk_len]; omega))) (perm_one (i := 1) rfl) (fun hl I1 h1 h2 _ => dk_lend h1 h2) rfl) ?_
                                                  rintro _ _ _ ⟨v139, rfl, rfl, rfl, rfl⟩
                                                  refine ⟨sat_S (bl := []) trivial, ?_⟩
                                                  refine ga_all1 (i := 19) (by kernel_rfl) ?_
                                                  · skip
                                                    refine gb_y_want rfl rfl rfl rfl (decide_eq_true rfl) rfl (y_tostr (bytes := (B.take (endF B))) Try.underlying36 Try.underlying5 Try.underlying9 rfl (blk_own (i := 3) rfl) (show (B.take (endF B)).length = endF B by have := end_le B; rw [List.length_take]; omega) take_hv) ?_
                                                    refine ga_want 26 rfl rfl rfl rfl (decide_eq_true rfl) (by kernel_rfl) (by kernel_rfl) rfl (y_sadd rfl rfl (by first | omega | (simp only [List.length_append, List.length_cons, List.length_nil, List.length_take, List.length_drop, List.length_map, List.length_replicate, List.length_set, u8s_length, fx_length, fixed_length, tabTo_len, tabV_len, zs_len, mk_len]; omega))) ?_
                                                    refine ga_want 27 rfl rfl rfl rfl (decide_eq_true rfl) (by kernel_rfl) (by kernel_rfl) rfl (y_seql rfl rfl) ?_
                                                    refine ga_y 28 rfl (by kernel_rfl) (by kernel_rfl) rfl (y_pick_t rfl (decide_eq_true rfl) rfl) ?_
                                                    refine ga_y 29 rfl (by kernel_rfl) (by kernel_rfl) rfl (y_move rfl) ?_
                                                    refine ga_want 30 rfl rfl rfl rfl (decide_eq_true (by rw [hn])) (by kernel_rfl) (by kernel_rfl) rfl (y_move rfl) ?_
                                                    refine ga_all1 (i := 31) (by kernel_rfl) ?_
                                                    · skip
                                                      refine gb_ef_want rfl rfl rfl rfl (decide_eq_true (by rw [hn])) (ef_callq en_55 rfl (disk_Waits _ (B.take (endF B) ++ zs (64 * n - endF B)) 0 n (by have := end_le B; simp [zs_len]; omega)) (perm_one (i := 1) rfl) (fun hl I1 h1 h2 _ => dk_lend h1 h2) rfl) ?_
                                                      rintro _ _ _ ⟨v155, ⟨j155, rfl, hj155⟩, rfl, rfl, rfl⟩
                                                      refine ⟨sat_S (bl := []) trivial, ?_⟩
                                                      refine ga_want 32 rfl rfl rfl rfl (decide_eq_true (by rw [hn])) (by kernel_rfl) (by kernel_rfl) rfl (y_eql rfl rfl) ?_
                                                      refine ga_y 33 rfl (by kernel_rfl) (by kernel_rfl) rfl (y_pick_t rfl (decide_eq_true (by rw [hn])) rfl) ?_
                                                      refine ga_y 34 rfl (by kernel_rfl) (by kernel_rfl) rfl (y_assign rfl) ?_
                                                      refine ga_done (by kernel_rfl) ?_
                                                      refine gq_then' ?_
                                                      refine gc_ret ?_
                                                      refine gq_r1 rfl rfl perm_all ?_
                                                      first | exact rfl | exact congrArg Value.bool (decide_eq_true (by omega))
                                                · skip
                                                  refine gb_y_want rfl rfl rfl rfl (decide_eq_true rfl) rfl (y_tostr (bytes := (B.take (endF B))) Try.underlying36 Try.underlying5 Try.underlying9 rfl (blk_own (i := 3) rfl) (show (B.take (endF B)).length = endF B by have := end_le B; rw [List.length_take]; omega) take_hv) ?_
                                                  refine ga_want 26 rfl rfl rfl rfl (decide_eq_true rfl) (by kernel_rfl) (by kernel_rfl) rfl (y_sadd rfl rfl (by first | omega | (simp only [List.length_append, List.length_cons, List.length_nil, List.length_take, List.length_drop, List.length_map, List.length_replicate, List.length_set, u8s_length, fx_length, fixed_length, tabTo_len, tabV_len, zs_len, mk_len]; omega))) ?_
                                                  refine ga_all1 (i := 15) (by kernel_rfl) ?_
                                                  · skip
                                                    refine gb_ef_want rfl rfl rfl rfl (decide_eq_true rfl) (ef_callq en_48 rfl (law_bytes08 _ (B.take (endF B) ++ zs (64 * n - endF B)) 0 n (by have := end_le B; simp [zs_len]; omega) (by first | omega | (simp only [List.length_append, List.length_cons, List.length_nil, List.length_take, List.length_drop, List.length_map, List.length_replicate, List.length_set, u8s_length, fx_length, fixed_length, tabTo_len, tabV_len, zs_len, mk_len]; omega)) (by first | omega | (simp only [List.length_append, List.length_cons, List.length_nil, List.length_take, List.length_drop, List.length_map, List.length_replicate, List.length_set, u8s_length, fx_length, fixed_length, tabTo_len, tabV_len, zs_len, mk_len]; omega))) (perm_one (i := 1) rfl) (fun hl I1 h1 h2 _ => dk_lend h1 h2) rfl) ?_
                                                    rintro _ _ _ ⟨v139, rfl, rfl, rfl, rfl⟩
                                                    refine ⟨sat_S (bl := []) trivial, ?_⟩
                                                    refine ga_want 27 rfl rfl rfl rfl (decide_eq_true rfl) (by kernel_rfl) (by kernel_rfl) rfl (y_seql rfl rfl) ?_
                                                    refine ga_y 28 rfl (by kernel_rfl) (by kernel_rfl) rfl (y_pick_t rfl (decide_eq_true rfl) rfl) ?_
                                                    refine ga_y 29 rfl (by kernel_rfl) (by kernel_rfl) rfl (y_move rfl) ?_
                                                    refine ga_want 30 rfl rfl rfl rfl (decide_eq_true (by rw [hn])) (by kernel_rfl) (by kernel_rfl) rfl (y_move rfl) ?_
                                                    refine ga_all1 (i := 31) (by kernel_rfl) ?_
                                                    · skip
                                                      refine gb_ef_want rfl rfl rfl rfl (decide_eq_true (by rw [hn])) (ef_callq en_55 rfl (disk_Waits _ (B.take (endF B) ++ zs (64 * n - endF B)) 0 n (by have := end_le B; simp [zs_len]; omega)) (perm_one (i := 1) rfl) (fun hl I1 h1 h2 _ => dk_lend h1 h2) rfl) ?_
                                                      rintro _ _ _ ⟨v155, ⟨j155, rfl, hj155⟩, rfl, rfl, rfl⟩
                                                      refine ⟨sat_S (bl := []) trivial, ?_⟩
                                                      refine ga_want 32 rfl rfl rfl rfl (decide_eq_true (by rw [hn])) (by kernel_rfl) (by kernel_rfl) rfl (y_eql rfl rfl) ?_
                                                      refine ga_y 33 rfl (by kernel_rfl) (by kernel_rfl) rfl (y_pick_t rfl (decide_eq_true (by rw [hn])) rfl) ?_
                                                      refine ga_y 34 rfl (by kernel_rfl) (by kernel_rfl) rfl (y_assign rfl) ?_
                                                      refine ga_done (by kernel_rfl) ?_
                                                      refine gq_then' ?_
                                                      refine gc_ret ?_
                                                      refine gq_r1 rfl rfl perm_all ?_
                                                      first | exact rfl | exact congrArg Value.bool (decide_eq_true (by omega))
                · have g52 := h52
                  try (replace g52 := of_decide_eq_false g52)
                  first
                  | exact absurd h52 (by decide)
                  | (exfalso; omega)
                  | skip
                    refine gc_skip ?_
                    refine gq_then' ?_
                    refine gc_seq ?_
                    refine gc_block ?_
                    refine gc_loopW (α := By × Nat × Nat × List Value) [66, 67, 68, 69, 70, 71, 72, 9] (fun (⟨B, g, cp, jk⟩ : By × Nat × Nat × List Value) => [(9, .slice (some ⟨g, 0, none⟩) B.length cp)]) (fun (⟨B, g, cp, jk⟩ : By × Nat × Nat × List Value) => [cl g 5 (u8s B ++ jk)]) (fun (⟨B, g, cp, jk⟩ : By × Nat × Nat × List Value) => (u8s B ++ jk).length = cp ∧ cp ≤ maxLen ∧ B.length ≤ 1408) (fun (⟨B, g, cp, jk⟩ : By × Nat × Nat × List Value) => (64 - B.length % 64) % 64) (B0, b49, c49, j49) ?_ (perm_one (i := 1) rfl) ?_ ?_
                    · exact ⟨hj49, hc49, by (show B0.length ≤ 1408); omega⟩
                    · exact ⟨by first | rfl | exact congrArg (fun m => some (Value.slice (some ⟨b49, 0, none⟩) m c49)) hl1.symm, trivial⟩
                    · rintro ⟨B, g, cp, jk⟩ ⟨hcp, hcm, hB⟩
                      replace hcp : (u8s B ++ jk).length = cp := hcp
                      replace hcm : cp ≤ maxLen := hcm
                      replace hB : B.length ≤ 1408 := hB
                      refine gc_seq ?_
                      refine gc_seq ?_
                      refine gc_region ?_
                      refine gl_y rfl (y_move rfl) ?_
                      refine gl_y rfl (y_len Try.underlying36 rfl) ?_
                      refine gl_y rfl (y_rem rfl rfl (by omega) (rem64 _)) ?_
                      refine gl_y rfl (y_neq rfl rfl) ?_
                      refine gl_nil ?_
                      refine gq_then' ?_
                      refine gc_if rfl (fun h69 => ?_) (fun h69 => ?_)
                      · have g69 := h69
                        try (replace g69 := of_decide_eq_true g69)
                        first
                        | exact absurd h69 (by decide)
                        | (exfalso; omega)
                        | skip
                          refine gc_skip ?_
                          refine gq_then' ?_
                          refine gc_block ?_
                          refine gc_region ?_
                          refine gl_y rfl (y_move rfl) ?_
                          refine gl_ef (ef_buildSlice Try.underlying36 sz_5 zr_5 rfl rfl rfl (cs := [_]) (zl := [_]) rfl rfl rfl rfl) ?_
                          rintro _ _ _ ⟨b71, rfl, rfl, rfl⟩
                          refine gl_ef (ef_appendC Try.underlying36 tf_5 rfl (i := 0) rfl (by rw [u8s_length, Nat.mul_one]) (by rw [Nat.mul_one]; exact hcp) hcm rfl (src_all (blk_own (i := 1) rfl)) rfl rfl (by omega) (by omega) rfl) ?_
                          rintro _ _ _ ⟨g72, c72, j72, h72, hm72, rfl, rfl, rfl⟩
                          refine gl_y rfl (y_assign rfl) ?_
                          refine gl_nil ?_
                          refine gq_in_normal ?_
                          refine gq_M (congrArg (fun z => cl g72 _ (z ++ j72) :: _) (show u8s B ++ [Value.int .u8 0] = u8s (B ++ [0]) by rw [u8s_append]; rfl)) ?_
                          refine gq_roundW (x := (⟨B, g, cp, jk⟩ : By × Nat × Nat × List Value)) (B ++ [0], g72, c72, j72) ?_ ?_ (perm_one (i := 0) rfl) rfl (by repeat (first | exact Ext.refl | refine Ext.cons rfl ?_)) ?_
                          · exact ⟨by (show (u8s (B ++ [0]) ++ j72).length = c72); rw [u8s_append]; rw [Nat.mul_one] at h72; exact h72, hm72, by (show (B ++ [0]).length ≤ 1408); rw [List.length_append]; (show B.length + 1 ≤ 1408); omega⟩
                          · (show (64 - (B ++ [0]).length % 64) % 64 < (64 - B.length % 64) % 64); rw [List.length_append]; (show (64 - (B.length + 1) % 64) % 64 < _); omega
                          · exact ⟨congrArg (fun m => some (Value.slice (some ⟨g72, 0, none⟩) m c72)) (by simp), trivial⟩
                      · have g69 := h69
                        try (replace g69 := of_decide_eq_false g69)
                        first
                        | exact absurd h69 (by decide)
                        | (exfalso; omega)
                        | skip
                          refine gc_exit ?_
                          refine gq_pass_exit ?_
                          refine gq_pass_exit ?_
                          refine gq_in_exit ?_
                          refine gq_then' ?_
                          refine gc_seq ?_
                          obtain ⟨n, hn⟩ : ∃ n, B.length = 64 * n := ⟨B.length / 64, by omega⟩
                          have hcp2 : B.length ≤ cp := by rw [← hcp, List.length_append, u8s_length]; omega
                          refine gc_region ?_
                          refine gl_ef (ef_callp en_31 rfl (crc_Make) rfl) ?_
                          rintro _ _ _ ⟨v73, rfl, rfl, rfl, rfl⟩
                          refine gl_ef (ef_alloc zr_63 (l := _) rfl rfl) ?_
                          rintro _ _ _ ⟨b10, rfl, rfl, rfl⟩
                          refine gl_ef (ef_storeA sz_63 rfl (vs := tabV) rfl tabV_len tabV_one (i := 1) rfl (by rw [tabV_len, List.length_replicate]; rfl)) ?_
                          rintro _ _ _ ⟨rfl, rfl, rfl⟩
                          rw [setAt_tab _ (List.length_replicate ..)]
                          refine gl_nil ?_
                          refine gq_then' ?_
                          refine gc_seq ?_
                          refine gc_region ?_
                          refine gl_y rfl (y_move rfl) ?_
                          refine gl_y rfl (y_tostr (bytes := B) Try.underlying36 Try.underlying5 Try.underlying9 rfl (blk_own (i := 0) rfl) rfl u8s_get) ?_
                          refine gl_ef (ef_callm en_51 rfl (ref_Stands B (by first | omega | (simp only [List.length_append, List.length_cons, List.length_nil, List.length_take, List.length_drop, List.length_map, List.length_replicate, List.length_set, u8s_length, fx_length, fixed_length, tabTo_len, tabV_len, zs_len, mk_len]; omega))) perm_all rfl) ?_
                          rintro _ _ _ ⟨v77, Mc77, ⟨A77, rfl, rfl⟩, rfl, rfl, rfl⟩
                          refine gl_y rfl (y_move rfl) ?_
                          refine gl_y rfl (y_extract rfl rfl) ?_
                          refine gl_y rfl (y_extract rfl rfl) ?_
                          refine gl_y rfl (y_assign rfl) ?_
                          refine gl_y rfl (y_assign rfl) ?_
                          refine gl_nil ?_
                          refine gq_then' ?_
                          refine gc_seq ?_
                          refine gc_region ?_
                          refine gl_y rfl (y_loadA ag_63 sz_63 rfl (blk_own (i := 2) rfl) (vs := tabV) tabV_len (at_all tabV)) ?_
                          refine gl_y rfl (y_move rfl) ?_
                          refine gl_y rfl (y_tostr (bytes := B) Try.underlying36 Try.underlying5 Try.underlying9 rfl (blk_own (i := 1) rfl) rfl u8s_get) ?_
                          refine gl_ef (ef_callm en_52 rfl (log_Stands B (by first | omega | (simp only [List.length_append, List.length_cons, List.length_nil, List.length_take, List.length_drop, List.length_map, List.length_replicate, List.length_set, u8s_length, fx_length, fixed_length, tabTo_len, tabV_len, zs_len, mk_len]; omega))) perm_all rfl) ?_
                          rintro _ _ _ ⟨v84, Mc84, ⟨A84, rfl, rfl⟩, rfl, rfl, rfl⟩
                          refine gl_y rfl (y_move rfl) ?_
                          refine gl_y rfl (y_extract rfl rfl) ?_
                          refine gl_y rfl (y_extract rfl rfl) ?_
                          refine gl_y rfl (y_assign rfl) ?_
                          refine gl_y rfl (y_assign rfl) ?_
                          refine gl_nil ?_
                          refine gq_then' ?_
                          refine gc_seq ?_
                          refine gc_seq ?_
                          refine gc_region ?_
                          refine gl_y rfl (y_move rfl) ?_
                          refine gl_y rfl (y_move rfl) ?_
                          refine gl_ef (ef_callq en_49 rfl (ref_Same08 _ _ (standsF B) (by have := stands_le B; omega)) (perm_two (i := 0) (j := 0) rfl rfl) (fun hl I1 h1 h2 _ => ks_lend2 h1 h2) rfl) ?_
                          rintro _ _ _ ⟨v89, rfl, rfl, rfl, rfl⟩
                          refine gl_y rfl (y_not rfl) ?_
                          refine gl_y rfl (y_move rfl) ?_
                          refine gl_want rfl rfl rfl rfl ?_
                          refine gl_y rfl (y_move rfl) ?_
                          refine gl_want rfl rfl rfl rfl ?_
                          refine gl_y rfl (y_move rfl) ?_
                          refine gl_want rfl rfl rfl rfl ?_
                          refine gl_y rfl (y_neq rfl rfl) ?_
                          refine gl_y rfl (y_pick_f rfl rfl rfl) ?_
                          refine gl_nil ?_
                          refine gq_then' ?_
                          refine gc_f rfl (decide_eq_false (fun h => h rfl)) ?_
                          refine gc_skip ?_
                          refine gq_then' ?_
                          refine gc_seq ?_
                          refine gc_region ?_
                          refine gl_y rfl (y_move rfl) ?_
                          refine gl_y rfl (y_len Try.underlying36 rfl) ?_
                          refine gl_y rfl (y_quo rfl rfl (by omega) (quoN hn (by omega))) ?_
                          refine gl_ef (ef_callm en_43 rfl (disk_New n (by first | omega | (simp only [List.length_append, List.length_cons, List.length_nil, List.length_take, List.length_drop, List.length_map, List.length_replicate, List.length_set, u8s_length, fx_length, fixed_length, tabTo_len, tabV_len, zs_len, mk_len]; omega))) perm_all rfl) ?_
                          rintro _ _ _ ⟨v99, Mc99, ⟨d99, rfl, rfl⟩, rfl, rfl, rfl⟩
                          refine gl_y rfl (y_assign rfl) ?_
                          refine gl_nil ?_
                          refine gq_then' ?_
                          refine gc_seq ?_
                          refine gc_seq ?_
                          refine gc_region ?_
                          refine gl_y rfl (y_assign rfl) ?_
                          refine gl_nil ?_
                          refine gq_then' ?_
                          refine gc_block ?_
                          refine gc_weak 0 rfl (dsk_weak (F' := (B.take (64 * 0) ++ zs (64 * n - 64 * 0))) (k' := 0) (by simp) (Nat.le_refl _)) ?_
                          refine gc_loopW (α := Nat) [100, 101, 102, 103, 106, 107, 108, 109, 110, 111, 112, 113, 114, 115, 116, 104, 105, 16] (fun (i : Nat) => [(16, .int .i64 (i : Int))]) (fun (i : Nat) => [dsk d99 (B.take (64 * i) ++ zs (64 * n - 64 * i)) i, cl g 5 (u8s B ++ jk), osl 9 1 A77 (standsF B).length ((standsF B).map strV), cl b10 63 tabV]) (fun (i : Nat) => i ≤ n) (fun (i : Nat) => n - i) 0 ?_ ((get_perm (i := 0) rfl).trans (((get_perm (i := 2) rfl).trans (((get_perm (i := 1) rfl).trans (((get_perm (i := 1) rfl).trans ((List.Perm.refl _).cons _)).cons _)).cons _)).cons _)) ?_ ?_
                          · exact Nat.zero_le _
                          · exact ⟨rfl, trivial⟩
                          · rintro i hi
                            refine gc_seq ?_
                            refine gc_seq ?_
                            refine gc_region ?_
                            refine gl_y rfl (y_move rfl) ?_
                            refine gl_y rfl (y_move rfl) ?_
                            refine gl_ef (ef_callq en_53 rfl (disk_Sectors _ (B.take (64 * i) ++ zs (64 * n - 64 * i)) i n (by simp [zs_len]; omega)) (perm_one (i := 0) rfl) (fun hl I1 h1 h2 _ => dk_lend h1 h2) rfl) ?_
                            rintro _ _ _ ⟨v102, rfl, rfl, rfl, rfl⟩
                            refine gl_y rfl (y_lss rfl rfl) ?_
                            refine gl_nil ?_
                            refine gq_then' ?_
                            refine gc_if rfl (fun h103 => ?_) (fun h103 => ?_)
                            · have g103 := h103
                              try (replace g103 := of_decide_eq_true g103)
                              first
                              | exact absurd h103 (by decide)
                              | (exfalso; omega)
                              | skip
                                refine gc_skip ?_
                                refine gq_then' ?_
                                refine gc_seq ?_
                                refine gc_block ?_
                                refine gc_region ?_
                                refine gl_y rfl (y_move rfl) ?_
                                refine gl_y rfl (y_move rfl) ?_
                                refine gl_y rfl (y_move rfl) ?_
                                refine gl_y rfl (y_move rfl) ?_
                                first | refine gl_y rfl (y_mul rfl rfl (wr_i64 (by omega) (by omega))) ?_ | refine gl_y rfl (y_mul rfl rfl rfl) ?_
                                refine gl_y rfl (y_move rfl) ?_
                                first | refine gl_y rfl (y_mul rfl rfl (wr_i64 (by omega) (by omega))) ?_ | refine gl_y rfl (y_mul rfl rfl rfl) ?_
                                first | refine gl_y rfl (y_add rfl rfl (wr_i64 (by omega) (by omega))) ?_ | refine gl_y rfl (y_add rfl rfl rfl) ?_
                                refine gl_y rfl (y_slslice Try.underlying36 sz_5 rfl rfl rfl (by omega) (by omega) (by omega) (by omega)) ?_
                                refine gl_y rfl (y_tostr (bytes := (sec B i)) Try.underlying36 Try.underlying5 Try.underlying9 rfl (blk_own (i := 1) rfl) (by have := sec_len hn (show i < n by omega); omega) sec_hv) ?_
                                refine gl_ef (ef_callm en_54 rfl (disk_WriteN _ (B.take (64 * i) ++ zs (64 * n - 64 * i)) i n i (sec B i) (by simp [zs_len]; omega) (by first | omega | (simp only [List.length_append, List.length_cons, List.length_nil, List.length_take, List.length_drop, List.length_map, List.length_replicate, List.length_set, u8s_length, fx_length, fixed_length, tabTo_len, tabV_len, zs_len, mk_len]; omega)) (sec_len hn (by omega)) (by first | omega | (simp only [List.length_append, List.length_cons, List.length_nil, List.length_take, List.length_drop, List.length_map, List.length_replicate, List.length_set, u8s_length, fx_length, fixed_length, tabTo_len, tabV_len, zs_len, mk_len]; omega))) (perm_one (i := 0) rfl) rfl) ?_
                                rintro _ _ _ ⟨v116, Mc116, ⟨rfl, rfl⟩, rfl, rfl, rfl⟩
                                refine gl_nil ?_
                                refine gq_in_normal ?_
                                refine gq_then' ?_
                                refine gc_region ?_
                                refine gl_y rfl (y_move rfl) ?_
                                first | refine gl_y rfl (y_add rfl rfl (wr_i64 (by omega) (by omega))) ?_ | refine gl_y rfl (y_add rfl rfl rfl) ?_
                                refine gl_y rfl (y_assign rfl) ?_
                                refine gl_nil ?_
                                refine gq_M (congrArg (fun z => dsk d99 z (i + 1) :: _) (fill_step hn (show i < n by omega))) ?_
                                refine gq_roundW (i + 1) ?_ ?_ perm_same rfl (by repeat (first | exact Ext.refl | refine Ext.cons rfl ?_)) ?_
                                · omega
                                · (show n - (i + 1) < n - i); omega
                                · exact ⟨rfl, trivial⟩
                            · have g103 := h103
                              try (replace g103 := of_decide_eq_false g103)
                              first
                              | exact absurd h103 (by decide)
                              | (exfalso; omega)
                              | skip
                                refine gc_exit ?_
                                refine gq_pass_exit ?_
                                refine gq_pass_exit ?_
                                refine gq_in_exit ?_
                                refine gq_then' ?_
                                refine gc_seq ?_
                                obtain rfl : n = i := by omega
                                refine gc_weak 0 rfl (dsk_weak (F' := B) (k' := n) (by rw [List.take_of_length_le (by omega), Nat.sub_self]; simp [zs]) (Nat.le_refl _)) ?_
                                refine gc_region ?_
                                refine gl_y rfl (y_loadA ag_63 sz_63 rfl (blk_own (i := 3) rfl) (vs := tabV) tabV_len (at_all tabV)) ?_
                                refine gl_y rfl (y_move rfl) ?_
                                refine gl_ef (ef_callm en_44 rfl (log_Open _ B n n hn (by first | omega | (simp only [List.length_append, List.length_cons, List.length_nil, List.length_take, List.length_drop, List.length_map, List.length_replicate, List.length_set, u8s_length, fx_length, fixed_length, tabTo_len, tabV_len, zs_len, mk_len]; omega)) (by first | omega | (simp only [List.length_append, List.length_cons, List.length_nil, List.length_take, List.length_drop, List.length_map, List.length_replicate, List.length_set, u8s_length, fx_length, fixed_length, tabTo_len, tabV_len, zs_len, mk_len]; omega))) (perm_one (i := 0) rfl) rfl) ?_
                                rintro _ _ _ ⟨v120, Mc120, ⟨l120, A120, rfl, rfl⟩, rfl, rfl, rfl⟩
                                refine gl_y rfl (y_move rfl) ?_
                                refine gl_y rfl (y_extract rfl rfl) ?_
                                refine gl_y rfl (y_extract rfl rfl) ?_
                                refine gl_y rfl (y_extract rfl rfl) ?_
                                refine gl_y rfl (y_assign rfl) ?_
                                refine gl_y rfl (y_assign rfl) ?_
                                refine gl_y rfl (y_assign rfl) ?_
                                refine gl_nil ?_
                                refine gq_then' ?_
                                refine gc_seq ?_
                                refine gc_region_draw (N := 35) [] rfl follows_mixed (by repeat (first | exact panicOk_body | refine panicOk_then ?_ | refine panicOk_in ?_)) (by kernel_rfl) ?_ ?_
                                · trivial
                                · skip
                                  refine ga_y 0 rfl (by kernel_rfl) (by kernel_rfl) rfl (y_move rfl) ?_
                                  refine ga_y 1 rfl (by kernel_rfl) (by kernel_rfl) rfl (y_eql rfl rfl) ?_
                                  refine ga_y 2 rfl (by kernel_rfl) (by kernel_rfl) rfl (y_move rfl) ?_
                                  refine ga_want 3 rfl rfl rfl rfl rfl (by kernel_rfl) (by kernel_rfl) rfl (y_move rfl) ?_
                                  refine ga_want 4 rfl rfl rfl rfl rfl (by kernel_rfl) (by kernel_rfl) rfl (y_move rfl) ?_
                                  refine ga_all1 (i := 5) (by kernel_rfl) ?_
                                  · skip
                                    refine gb_ef_want rfl rfl rfl rfl rfl (ef_callq en_49 rfl (ref_Same08 _ _ (standsF B) (by have := stands_le B; omega)) (perm_two (i := 2) (j := 3) rfl rfl) (fun hl I1 h1 h2 _ => ks_lend2 h1 h2) rfl) ?_
                                    rintro _ _ _ ⟨v129, rfl, rfl, rfl, rfl⟩
                                    refine ⟨sat_S (bl := []) trivial, ?_⟩
                                    refine ga_y 6 rfl (by kernel_rfl) (by kernel_rfl) rfl (y_pick_t rfl rfl rfl) ?_
                                    refine ga_y 7 rfl (by kernel_rfl) (by kernel_rfl) rfl (y_move rfl) ?_
                                    refine ga_want 8 rfl rfl rfl rfl rfl (by kernel_rfl) (by kernel_rfl) rfl (y_move rfl) ?_
                                    refine ga_want 10 rfl rfl rfl rfl rfl (by kernel_rfl) (by kernel_rfl) rfl (y_move rfl) ?_
                                    refine ga_all1 (i := 9) (by kernel_rfl) ?_
                                    · skip
                                      refine gb_ef_want rfl rfl rfl rfl rfl (ef_callm en_45 rfl (log_End _ _ _) (perm_one (i := 0) rfl) rfl) ?_
                                      rintro _ _ _ ⟨v133, Mc133, ⟨rfl, rfl⟩, rfl, rfl, rfl⟩
                                      refine ⟨sat_S (bl := []) trivial, ?_⟩
                                      refine ga_want 11 rfl rfl rfl rfl rfl (by kernel_rfl) (by kernel_rfl) rfl (y_eql rfl rfl) ?_
                                      refine ga_y 12 rfl (by kernel_rfl) (by kernel_rfl) rfl (y_pick_t rfl rfl rfl) ?_
                                      refine ga_y 13 rfl (by kernel_rfl) (by kernel_rfl) rfl (y_move rfl) ?_
                                      refine ga_want 14 rfl rfl rfl rfl (decide_eq_true rfl) (by kernel_rfl) (by kernel_rfl) rfl (y_move rfl) ?_
                                      refine ga_want 16 rfl rfl rfl rfl (decide_eq_true rfl) (by kernel_rfl) (by kernel_rfl) rfl (y_move rfl) ?_
                                      refine ga_want 17 rfl rfl rfl rfl (decide_eq_true rfl) (by kernel_rfl) (by kernel_rfl) rfl (y_move rfl) ?_
                                      refine ga_want 18 rfl rfl rfl rfl (decide_eq_true rfl) (by kernel_rfl) (by kernel_rfl) rfl (y_slslice_h Try.underlying36 sz_5 rfl rfl (by omega) (by have := end_le B; omega)) ?_
                                      refine ga_want 20 rfl rfl rfl rfl (decide_eq_true rfl) (by kernel_rfl) (by kernel_rfl) rfl (y_move rfl) ?_
                                      refine ga_want 21 rfl rfl rfl rfl (decide_eq_true rfl) (by kernel_rfl) (by kernel_rfl) rfl (y_len Try.underlying36 rfl) ?_
                                      refine ga_want 22 rfl rfl rfl rfl (decide_eq_true rfl) (by kernel_rfl) (by kernel_rfl) rfl (y_move rfl) ?_
                                      refine ga_want 23 rfl rfl rfl rfl (decide_eq_true rfl) (by kernel_rfl) (by kernel_rfl) rfl (y_sub rfl rfl (sub_i64 _ _ (end_le B) (by omega))) ?_
                                      refine ga_all3 (i := 15) (j := 19) (l := 24) (by kernel_rfl) ?_ ?_ ?_
                                      · skip
                                        refine gb_ef_want rfl rfl rfl rfl (decide_eq_true rfl) (ef_callq en_48 rfl (law_bytes08 _ (B.take (endF B) ++ zs (64 * n - endF B)) 0 n (by have := end_le B; simp [zs_len]; omega) (by first | omega | (simp only [List.length_append, List.length_cons, List.length_nil, List.length_take, List.length_drop, List.length_map, List.length_replicate, List.length_set, u8s_length, fx_length, fixed_length, tabTo_len, tabV_len, zs_len, mk_len]; omega)) (by first | omega | (simp only [List.length_append, List.length_cons, List.length_nil, List.length_take, List.length_drop, List.length_map, List.length_replicate, List.length_set, u8s_length, fx_length, fixed_length, tabTo_len, tabV_len, zs_len, mk_len]; omega))) (perm_one (i := 1) rfl) (fun hl I1 h1 h2 _ => dk_lend h1 h2) rfl) ?_
                                        rintro _ _ _ ⟨v139, rfl, rfl, rfl, rfl⟩
                                        refine ⟨sat_S (bl := []) trivial, ?_⟩
                                        refine ga_all2 (i := 19) (j := 24) (by kernel_rfl) ?_ ?_
                                        · skip
                                          refine gb_y_want rfl rfl rfl rfl (decide_eq_true rfl) rfl (y_tostr (bytes := (B.take (endF B))) Try.underlying36 Try.underlying5 Try.underlying9 rfl (blk_own (i := 3) rfl) (show (B.take (endF B)).length = endF B by have := end_le B; rw [List.length_take]; omega) take_hv) ?_
                                          refine ga_all1 (i := 24) (by kernel_rfl) ?_
                                          · skip
                                            refine gb_ef_want rfl rfl rfl rfl (decide_eq_true rfl) (ef_make Try.underlying36 tf_5 (m := (B.length - endF B)) rfl rfl (by omega) (by omega) rfl) ?_
                                            rintro _ _ _ ⟨b148, rfl, rfl, rfl⟩
                                            refine ⟨sat_S (bl := []) trivial, ?_⟩
                                            refine ga_all1 (i := 25) (by kernel_rfl) ?_
                                            · skip
                                              refine gb_y_want rfl rfl rfl rfl (decide_eq_true rfl) rfl (y_tostr (bytes := (zs (B.length - endF B))) Try.underlying36 Try.underlying5 Try.underlying9 rfl (blk_own (i := 6) rfl) (zs_len _) (made_get _)) ?_
                                              refine ga_want 26 rfl rfl rfl rfl (decide_eq_true rfl) (by kernel_rfl) (by kernel_rfl) rfl (y_sadd rfl rfl (by first | omega | (simp only [List.length_append, List.length_cons, List.length_nil, List.length_take, List.length_drop, List.length_map, List.length_replicate, List.length_set, u8s_length, fx_length, fixed_length, tabTo_len, tabV_len, zs_len, mk_len]; omega))) ?_
                                              refine ga_want 27 rfl rfl rfl rfl (decide_eq_true rfl) (by kernel_rfl) (by kernel_rfl) rfl (y_seql rfl rfl) ?_
                                              refine ga_y 28 rfl (by kernel_rfl) (by kernel_rfl) rfl (y_pick_t rfl (decide_eq_true rfl) rfl) ?_
                                              refine ga_y 29 rfl (by kernel_rfl) (by kernel_rfl) rfl (y_move rfl) ?_
                                              refine ga_want 30 rfl rfl rfl rfl (decide_eq_true (by rw [hn])) (by kernel_rfl) (by kernel_rfl) rfl (y_move rfl) ?_
                                              refine ga_all1 (i := 31) (by kernel_rfl) ?_
                                              · skip
                                                refine gb_ef_want rfl rfl rfl rfl (decide_eq_true (by rw [hn])) (ef_callq en_55 rfl (disk_Waits _ (B.take (endF B) ++ zs (64 * n - endF B)) 0 n (by have := end_le B; simp [zs_len]; omega)) (perm_one (i := 1) rfl) (fun hl I1 h1 h2 _ => dk_lend h1 h2) rfl) ?_
                                                rintro _ _ _ ⟨v155, ⟨j155, rfl, hj155⟩, rfl, rfl, rfl⟩
                                                refine ⟨sat_S (bl := []) trivial, ?_⟩
                                                refine ga_want 32 rfl rfl rfl rfl (decide_eq_true (by rw [hn])) (by kernel_rfl) (by kernel_rfl) rfl (y_eql rfl rfl) ?_
                                                refine ga_y 33 rfl (by kernel_rfl) (by kernel_rfl) rfl (y_pick_t rfl (decide_eq_true (by rw [hn])) rfl) ?_
                                                refine ga_y 34 rfl (by kernel_rfl) (by kernel_rfl) rfl (y_assign rfl) ?_
                                                refine ga_done (by kernel_rfl) ?_
                                                refine gq_then' ?_
                                                refine gc_ret ?_
                                                refine gq_r1 rfl rfl perm_all ?_
                                                first | exact rfl | exact congrArg Value.bool (decide_eq_true (by omega))
                                        · skip
                                          refine gb_ef_want rfl rfl rfl rfl (decide_eq_true rfl) (ef_make Try.underlying36 tf_5 (m := (B.length - endF B)) rfl rfl (by omega) (by omega) rfl) ?_
                                          rintro _ _ _ ⟨b148, rfl, rfl, rfl⟩
                                          refine ⟨sat_S (bl := []) trivial, ?_⟩
                                          refine ga_all2 (i := 19) (j := 25) (by kernel_rfl) ?_ ?_
                                          · skip
                                            refine gb_y_want rfl rfl rfl rfl (decide_eq_true rfl) rfl (y_tostr (bytes := (B.take (endF B))) Try.underlying36 Try.underlying5 Try.underlying9 rfl (blk_own (i := 3) rfl) (show (B.take (endF B)).length = endF B by have := end_le B; rw [List.length_take]; omega) take_hv) ?_
                                            refine ga_all1 (i := 25) (by kernel_rfl) ?_
                                            · skip
                                              refine gb_y_want rfl rfl rfl rfl (decide_eq_true rfl) rfl (y_tostr (bytes := (zs (B.length - endF B))) Try.underlying36 Try.underlying5 Try.underlying9 rfl (blk_own (i := 6) rfl) (zs_len _) (made_get _)) ?_
                                              refine ga_want 26 rfl rfl rfl rfl (decide_eq_true rfl) (by kernel_rfl) (by kernel_rfl) rfl (y_sadd rfl rfl (by first | omega | (simp only [List.length_append, List.length_cons, List.length_nil, List.length_take, List.length_drop, List.length_map, List.length_replicate, List.length_set, u8s_length, fx_length, fixed_length, tabTo_len, tabV_len, zs_len, mk_len]; omega))) ?_
                                              refine ga_want 27 rfl rfl rfl rfl (decide_eq_true rfl) (by kernel_rfl) (by kernel_rfl) rfl (y_seql rfl rfl) ?_
                                              refine ga_y 28 rfl (by kernel_rfl) (by kernel_rfl) rfl (y_pick_t rfl (decide_eq_true rfl) rfl) ?_
                                              refine ga_y 29 rfl (by kernel_rfl) (by kernel_rfl) rfl (y_move rfl) ?_
                                              refine ga_want 30 rfl rfl rfl rfl (decide_eq_true (by rw [hn])) (by kernel_rfl) (by kernel_rfl) rfl (y_move rfl) ?_
                                              refine ga_all1 (i := 31) (by kernel_rfl) ?_
                                              · skip
                                                refine gb_ef_want rfl rfl rfl rfl (decide_eq_true (by rw [hn])) (ef_callq en_55 rfl (disk_Waits _ (B.take (endF B) ++ zs (64 * n - endF B)) 0 n (by have := end_le B; simp [zs_len]; omega)) (perm_one (i := 1) rfl) (fun hl I1 h1 h2 _ => dk_lend h1 h2) rfl) ?_
                                                rintro _ _ _ ⟨v155, ⟨j155, rfl, hj155⟩, rfl, rfl, rfl⟩
                                                refine ⟨sat_S (bl := []) trivial, ?_⟩
                                                refine ga_want 32 rfl rfl rfl rfl (decide_eq_true (by rw [hn])) (by kernel_rfl) (by kernel_rfl) rfl (y_eql rfl rfl) ?_
                                                refine ga_y 33 rfl (by kernel_rfl) (by kernel_rfl) rfl (y_pick_t rfl (decide_eq_true (by rw [hn])) rfl) ?_
                                                refine ga_y 34 rfl (by kernel_rfl) (by kernel_rfl) rfl (y_assign rfl) ?_
                                                refine ga_done (by kernel_rfl) ?_
                                                refine gq_then' ?_
                                                refine gc_ret ?_
                                                refine gq_r1 rfl rfl perm_all ?_
                                                first | exact rfl | exact congrArg Value.bool (decide_eq_true (by omega))
                                          · skip
                                            refine gb_y_want rfl rfl rfl rfl (decide_eq_true rfl) rfl (y_tostr (bytes := (zs (B.length - endF B))) Try.underlying36 Try.underlying5 Try.underlying9 rfl (blk_own (i := 6) rfl) (zs_len _) (made_get _)) ?_
                                            refine ga_all1 (i := 19) (by kernel_rfl) ?_
                                            · skip
                                              refine gb_y_want rfl rfl rfl rfl (decide_eq_true rfl) rfl (y_tostr (bytes := (B.take (endF B))) Try.underlying36 Try.underlying5 Try.underlying9 rfl (blk_own (i := 3) rfl) (show (B.take (endF B)).length = endF B by have := end_le B; rw [List.length_take]; omega) take_hv) ?_
                                              refine ga_want 26 rfl rfl rfl rfl (decide_eq_true rfl) (by kernel_rfl) (by kernel_rfl) rfl (y_sadd rfl rfl (by first | omega | (simp only [List.length_append, List.length_cons, List.length_nil, List.length_take, List.length_drop, List.length_map, List.length_replicate, List.length_set, u8s_length, fx_length, fixed_length, tabTo_len, tabV_len, zs_len, mk_len]; omega))) ?_
                                              refine ga_want 27 rfl rfl rfl rfl (decide_eq_true rfl) (by kernel_rfl) (by kernel_rfl) rfl (y_seql rfl rfl) ?_
                                              refine ga_y 28 rfl (by kernel_rfl) (by kernel_rfl) rfl (y_pick_t rfl (decide_eq_true rfl) rfl) ?_
                                              refine ga_y 29 rfl (by kernel_rfl) (by kernel_rfl) rfl (y_move rfl) ?_
                                              refine ga_want 30 rfl rfl rfl rfl (decide_eq_true (by rw [hn])) (by kernel_rfl) (by kernel_rfl) rfl (y_move rfl) ?_
                                              refine ga_all1 (i := 31) (by kernel_rfl) ?_
                                              · skip
                                                refine gb_ef_want rfl rfl rfl rfl (decide_eq_true (by rw [hn])) (ef_callq en_55 rfl (disk_Waits _ (B.take (endF B) ++ zs (64 * n - endF B)) 0 n (by have := end_le B; simp [zs_len]; omega)) (perm_one (i := 1) rfl) (fun hl I1 h1 h2 _ => dk_lend h1 h2) rfl) ?_
                                                rintro _ _ _ ⟨v155, ⟨j155, rfl, hj155⟩, rfl, rfl, rfl⟩
                                                refine ⟨sat_S (bl := []) trivial, ?_⟩
                                                refine ga_want 32 rfl rfl rfl rfl (decide_eq_true (by rw [hn])) (by kernel_rfl) (by kernel_rfl) rfl (y_eql rfl rfl) ?_
                                                refine ga_y 33 rfl (by kernel_rfl) (by kernel_rfl) rfl (y_pick_t rfl (decide_eq_true (by rw [hn])) rfl) ?_
                                                refine ga_y 34 rfl (by kernel_rfl) (by kernel_rfl) rfl (y_assign rfl) ?_
                                                refine ga_done (by kernel_rfl) ?_
                                                refine gq_then' ?_
                                                refine gc_ret ?_
                                                refine gq_r1 rfl rfl perm_all ?_
                                                first | exact rfl | exact congrArg Value.bool (decide_eq_true (by omega))
                                      · skip
                                        refine gb_y_want rfl rfl rfl rfl (decide_eq_true rfl) rfl (y_tostr (bytes := (B.take (endF B))) Try.underlying36 Try.underlying5 Try.underlying9 rfl (blk_own (i := 3) rfl) (show (B.take (endF B)).length = endF B by have := end_le B; rw [List.length_take]; omega) take_hv) ?_
                                        refine ga_all2 (i := 15) (j := 24) (by kernel_rfl) ?_ ?_
                                        · skip
                                          refine gb_ef_want rfl rfl rfl rfl (decide_eq_true rfl) (ef_callq en_48 rfl (law_bytes08 _ (B.take (endF B) ++ zs (64 * n - endF B)) 0 n (by have := end_le B; simp [zs_len]; omega) (by first | omega | (simp only [List.length_append, List.length_cons, List.length_nil, List.length_take, List.length_drop, List.length_map, List.length_replicate, List.length_set, u8s_length, fx_length, fixed_length, tabTo_len, tabV_len, zs_len, mk_len]; omega)) (by first | omega | (simp only [List.length_append, List.length_cons, List.length_nil, List.length_take, List.length_drop, List.length_map, List.length_replicate, List.length_set, u8s_length, fx_length, fixed_length, tabTo_len, tabV_len, zs_len, mk_len]; omega))) (perm_one (i := 1) rfl) (fun hl I1 h1 h2 _ => dk_lend h1 h2) rfl) ?_
                                          rintro _ _ _ ⟨v139, rfl, rfl, rfl, rfl⟩
                                          refine ⟨sat_S (bl := []) trivial, ?_⟩
                                          refine ga_all1 (i := 24) (by kernel_rfl) ?_
                                          · skip
                                            refine gb_ef_want rfl rfl rfl rfl (decide_eq_true rfl) (ef_make Try.underlying36 tf_5 (m := (B.length - endF B)) rfl rfl (by omega) (by omega) rfl) ?_
                                            rintro _ _ _ ⟨b148, rfl, rfl, rfl⟩
                                            refine ⟨sat_S (bl := []) trivial, ?_⟩
                                            refine ga_all1 (i := 25) (by kernel_rfl) ?_
                                            · skip
                                              refine gb_y_want rfl rfl rfl rfl (decide_eq_true rfl) rfl (y_tostr (bytes := (zs (B.length - endF B))) Try.underlying36 Try.underlying5 Try.underlying9 rfl (blk_own (i := 6) rfl) (zs_len _) (made_get _)) ?_
                                              refine ga_want 26 rfl rfl rfl rfl (decide_eq_true rfl) (by kernel_rfl) (by kernel_rfl) rfl (y_sadd rfl rfl (by first | omega | (simp only [List.length_append, List.length_cons, List.length_nil, List.length_take, List.length_drop, List.length_map, List.length_replicate, List.length_set, u8s_length, fx_length, fixed_length, tabTo_len, tabV_len, zs_len, mk_len]; omega))) ?_
                                              refine ga_want 27 rfl rfl rfl rfl (decide_eq_true rfl) (by kernel_rfl) (by kernel_rfl) rfl (y_seql rfl rfl) ?_
                                              refine ga_y 28 rfl (by kernel_rfl) (by kernel_rfl) rfl (y_pick_t rfl (decide_eq_true rfl) rfl) ?_
                                              refine ga_y 29 rfl (by kernel_rfl) (by kernel_rfl) rfl (y_move rfl) ?_
                                              refine ga_want 30 rfl rfl rfl rfl (decide_eq_true (by rw [hn])) (by kernel_rfl) (by kernel_rfl) rfl (y_move rfl) ?_
                                              refine ga_all1 (i := 31) (by kernel_rfl) ?_
                                              · skip
                                                refine gb_ef_want rfl rfl rfl rfl (decide_eq_true (by rw [hn])) (ef_callq en_55 rfl (disk_Waits _ (B.take (endF B) ++ zs (64 * n - endF B)) 0 n (by have := end_le B; simp [zs_len]; omega)) (perm_one (i := 1) rfl) (fun hl I1 h1 h2 _ => dk_lend h1 h2) rfl) ?_
                                                rintro _ _ _ ⟨v155, ⟨j155, rfl, hj155⟩, rfl, rfl, rfl⟩
                                                refine ⟨sat_S (bl := []) trivial, ?_⟩
                                                refine ga_want 32 rfl rfl rfl rfl (decide_eq_true (by rw [hn])) (by kernel_rfl) (by kernel_rfl) rfl (y_eql rfl rfl) ?_
                                                refine ga_y 33 rfl (by kernel_rfl) (by kernel_rfl) rfl (y_pick_t rfl (decide_eq_true (by rw [hn])) rfl) ?_
                                                refine ga_y 34 rfl (by kernel_rfl) (by kernel_rfl) rfl (y_assign rfl) ?_
                                                refine ga_done (by kernel_rfl) ?_
                                                refine gq_then' ?_
                                                refine gc_ret ?_
                                                refine gq_r1 rfl rfl perm_all ?_
                                                first | exact rfl | exact congrArg Value.bool (decide_eq_true (by omega))
                                        · skip
                                          refine gb_ef_want rfl rfl rfl rfl (decide_eq_true rfl) (ef_make Try.underlying36 tf_5 (m := (B.length - endF B)) rfl rfl (by omega) (by omega) rfl) ?_
                                          rintro _ _ _ ⟨b148, rfl, rfl, rfl⟩
                                          refine ⟨sat_S (bl := []) trivial, ?_⟩
                                          refine ga_all2 (i := 15) (j := 25) (by kernel_rfl) ?_ ?_
                                          · skip
                                            refine gb_ef_want rfl rfl rfl rfl (decide_eq_true rfl) (ef_callq en_48 rfl (law_bytes08 _ (B.take (endF B) ++ zs (64 * n - endF B)) 0 n (by have := end_le B; simp [zs_len]; omega) (by first | omega | (simp only [List.length_append, List.length_cons, List.length_nil, List.length_take, List.length_drop, List.length_map, List.length_replicate, List.length_set, u8s_length, fx_length, fixed_length, tabTo_len, tabV_len, zs_len, mk_len]; omega)) (by first | omega | (simp only [List.length_append, List.length_cons, List.length_nil, List.length_take, List.length_drop, List.length_map, List.length_replicate, List.length_set, u8s_length, fx_length, fixed_length, tabTo_len, tabV_len, zs_len, mk_len]; omega))) (perm_one (i := 1) rfl) (fun hl I1 h1 h2 _ => dk_lend h1 h2) rfl) ?_
                                            rintro _ _ _ ⟨v139, rfl, rfl, rfl, rfl⟩
                                            refine ⟨sat_S (bl := []) trivial, ?_⟩
                                            refine ga_all1 (i := 25) (by kernel_rfl) ?_
                                            · skip
                                              refine gb_y_want rfl rfl rfl rfl (decide_eq_true rfl) rfl (y_tostr (bytes := (zs (B.length - endF B))) Try.underlying36 Try.underlying5 Try.underlying9 rfl (blk_own (i := 6) rfl) (zs_len _) (made_get _)) ?_
                                              refine ga_want 26 rfl rfl rfl rfl (decide_eq_true rfl) (by kernel_rfl) (by kernel_rfl) rfl (y_sadd rfl rfl (by first | omega | (simp only [List.length_append, List.length_cons, List.length_nil, List.length_take, List.length_drop, List.length_map, List.length_replicate, List.length_set, u8s_length, fx_length, fixed_length, tabTo_len, tabV_len, zs_len, mk_len]; omega))) ?_
                                              refine ga_want 27 rfl rfl rfl rfl (decide_eq_true rfl) (by kernel_rfl) (by kernel_rfl) rfl (y_seql rfl rfl) ?_
                                              refine ga_y 28 rfl (by kernel_rfl) (by kernel_rfl) rfl (y_pick_t rfl (decide_eq_true rfl) rfl) ?_
                                              refine ga_y 29 rfl (by kernel_rfl) (by kernel_rfl) rfl (y_move rfl) ?_
                                              refine ga_want 30 rfl rfl rfl rfl (decide_eq_true (by rw [hn])) (by kernel_rfl) (by kernel_rfl) rfl (y_move rfl) ?_
                                              refine ga_all1 (i := 31) (by kernel_rfl) ?_
                                              · skip
                                                refine gb_ef_want rfl rfl rfl rfl (decide_eq_true (by rw [hn])) (ef_callq en_55 rfl (disk_Waits _ (B.take (endF B) ++ zs (64 * n - endF B)) 0 n (by have := end_le B; simp [zs_len]; omega)) (perm_one (i := 1) rfl) (fun hl I1 h1 h2 _ => dk_lend h1 h2) rfl) ?_
                                                rintro _ _ _ ⟨v155, ⟨j155, rfl, hj155⟩, rfl, rfl, rfl⟩
                                                refine ⟨sat_S (bl := []) trivial, ?_⟩
                                                refine ga_want 32 rfl rfl rfl rfl (decide_eq_true (by rw [hn])) (by kernel_rfl) (by kernel_rfl) rfl (y_eql rfl rfl) ?_
                                                refine ga_y 33 rfl (by kernel_rfl) (by kernel_rfl) rfl (y_pick_t rfl (decide_eq_true (by rw [hn])) rfl) ?_
                                                refine ga_y 34 rfl (by kernel_rfl) (by kernel_rfl) rfl (y_assign rfl) ?_
                                                refine ga_done (by kernel_rfl) ?_
                                                refine gq_then' ?_
                                                refine gc_ret ?_
                                                refine gq_r1 rfl rfl perm_all ?_
                                                first | exact rfl | exact congrArg Value.bool (decide_eq_true (by omega))
                                          · skip
                                            refine gb_y_want rfl rfl rfl rfl (decide_eq_true rfl) rfl (y_tostr (bytes := (zs (B.length - endF B))) Try.underlying36 Try.underlying5 Try.underlying9 rfl (blk_own (i := 6) rfl) (zs_len _) (made_get _)) ?_
                                            refine ga_want 26 rfl rfl rfl rfl (decide_eq_true rfl) (by kernel_rfl) (by kernel_rfl) rfl (y_sadd rfl rfl (by first | omega | (simp only [List.length_append, List.length_cons, List.length_nil, List.length_take, List.length_drop, List.length_map, List.length_replicate, List.length_set, u8s_length, fx_length, fixed_length, tabTo_len, tabV_len, zs_len, mk_len]; omega))) ?_
                                            refine ga_all1 (i := 15) (by kernel_rfl) ?_
                                            · skip
                                              refine gb_ef_want rfl rfl rfl rfl (decide_eq_true rfl) (ef_callq en_48 rfl (law_bytes08 _ (B.take (endF B) ++ zs (64 * n - endF B)) 0 n (by have := end_le B; simp [zs_len]; omega) (by first | omega | (simp only [List.length_append, List.length_cons, List.length_nil, List.length_take, List.length_drop, List.length_map, List.length_replicate, List.length_set, u8s_length, fx_length, fixed_length, tabTo_len, tabV_len, zs_len, mk_len]; omega)) (by first | omega | (simp only [List.length_append, List.length_cons, List.length_nil, List.length_take, List.length_drop, List.length_map, List.length_replicate, List.length_set, u8s_length, fx_length, fixed_length, tabTo_len, tabV_len, zs_len, mk_len]; omega))) (perm_one (i := 1) rfl) (fun hl I1 h1 h2 _ => dk_lend h1 h2) rfl) ?_
                                              rintro _ _ _ ⟨v139, rfl, rfl, rfl, rfl⟩
                                              refine ⟨sat_S (bl := []) trivial, ?_⟩
                                              refine ga_want 27 rfl rfl rfl rfl (decide_eq_true rfl) (by kernel_rfl) (by kernel_rfl) rfl (y_seql rfl rfl) ?_
                                              refine ga_y 28 rfl (by kernel_rfl) (by kernel_rfl) rfl (y_pick_t rfl (decide_eq_true rfl) rfl) ?_
                                              refine ga_y 29 rfl (by kernel_rfl) (by kernel_rfl) rfl (y_move rfl) ?_
                                              refine ga_want 30 rfl rfl rfl rfl (decide_eq_true (by rw [hn])) (by kernel_rfl) (by kernel_rfl) rfl (y_move rfl) ?_
                                              refine ga_all1 (i := 31) (by kernel_rfl) ?_
                                              · skip
                                                refine gb_ef_want rfl rfl rfl rfl (decide_eq_true (by rw [hn])) (ef_callq en_55 rfl (disk_Waits _ (B.take (endF B) ++ zs (64 * n - endF B)) 0 n (by have := end_le B; simp [zs_len]; omega)) (perm_one (i := 1) rfl) (fun hl I1 h1 h2 _ => dk_lend h1 h2) rfl) ?_
                                                rintro _ _ _ ⟨v155, ⟨j155, rfl, hj155⟩, rfl, rfl, rfl⟩
                                                refine ⟨sat_S (bl := []) trivial, ?_⟩
                                                refine ga_want 32 rfl rfl rfl rfl (decide_eq_true (by rw [hn])) (by kernel_rfl) (by kernel_rfl) rfl (y_eql rfl rfl) ?_
                                                refine ga_y 33 rfl (by kernel_rfl) (by kernel_rfl) rfl (y_pick_t rfl (decide_eq_true (by rw [hn])) rfl) ?_
                                                refine ga_y 34 rfl (by kernel_rfl) (by kernel_rfl) rfl (y_assign rfl) ?_
                                                refine ga_done (by kernel_rfl) ?_
                                                refine gq_then' ?_
                                                refine gc_ret ?_
                                                refine gq_r1 rfl rfl perm_all ?_
                                                first | exact rfl | exact congrArg Value.bool (decide_eq_true (by omega))
                                      · skip
                                        refine gb_ef_want rfl rfl rfl rfl (decide_eq_true rfl) (ef_make Try.underlying36 tf_5 (m := (B.length - endF B)) rfl rfl (by omega) (by omega) rfl) ?_
                                        rintro _ _ _ ⟨b148, rfl, rfl, rfl⟩
                                        refine ⟨sat_S (bl := []) trivial, ?_⟩
                                        refine ga_all3 (i := 15) (j := 19) (l := 25) (by kernel_rfl) ?_ ?_ ?_
                                        · skip
                                          refine gb_ef_want rfl rfl rfl rfl (decide_eq_true rfl) (ef_callq en_48 rfl (law_bytes08 _ (B.take (endF B) ++ zs (64 * n - endF B)) 0 n (by have := end_le B; simp [zs_len]; omega) (by first | omega | (simp only [List.length_append, List.length_cons, List.length_nil, List.length_take, List.length_drop, List.length_map, List.length_replicate, List.length_set, u8s_length, fx_length, fixed_length, tabTo_len, tabV_len, zs_len, mk_len]; omega)) (by first | omega | (simp only [List.length_append, List.length_cons, List.length_nil, List.length_take, List.length_drop, List.length_map, List.length_replicate, List.length_set, u8s_length, fx_length, fixed_length, tabTo_len, tabV_len, zs_len, mk_len]; omega))) (perm_one (i := 1) rfl) (fun hl I1 h1 h2 _ => dk_lend h1 h2) rfl) ?_
                                          rintro _ _ _ ⟨v139, rfl, rfl, rfl, rfl⟩
                                          refine ⟨sat_S (bl := []) trivial, ?_⟩
                                          refine ga_all2 (i := 19) (j := 25) (by kernel_rfl) ?_ ?_
                                          · skip
                                            refine gb_y_want rfl rfl rfl rfl (decide_eq_true rfl) rfl (y_tostr (bytes := (B.take (endF B))) Try.underlying36 Try.underlying5 Try.underlying9 rfl (blk_own (i := 3) rfl) (show (B.take (endF B)).length = endF B by have := end_le B; rw [List.length_take]; omega) take_hv) ?_
                                            refine ga_all1 (i := 25) (by kernel_rfl) ?_
                                            · skip
                                              refine gb_y_want rfl rfl rfl rfl (decide_eq_true rfl) rfl (y_tostr (bytes := (zs (B.length - endF B))) Try.underlying36 Try.underlying5 Try.underlying9 rfl (blk_own (i := 6) rfl) (zs_len _) (made_get _)) ?_
                                              refine ga_want 26 rfl rfl rfl rfl (decide_eq_true rfl) (by kernel_rfl) (by kernel_rfl) rfl (y_sadd rfl rfl (by first | omega | (simp only [List.length_append, List.length_cons, List.length_nil, List.length_take, List.length_drop, List.length_map, List.length_replicate, List.length_set, u8s_length, fx_length, fixed_length, tabTo_len, tabV_len, zs_len, mk_len]; omega))) ?_
                                              refine ga_want 27 rfl rfl rfl rfl (decide_eq_true rfl) (by kernel_rfl) (by kernel_rfl) rfl (y_seql rfl rfl) ?_
                                              refine ga_y 28 rfl (by kernel_rfl) (by kernel_rfl) rfl (y_pick_t rfl (decide_eq_true rfl) rfl) ?_
                                              refine ga_y 29 rfl (by kernel_rfl) (by kernel_rfl) rfl (y_move rfl) ?_
                                              refine ga_want 30 rfl rfl rfl rfl (decide_eq_true (by rw [hn])) (by kernel_rfl) (by kernel_rfl) rfl (y_move rfl) ?_
                                              refine ga_all1 (i := 31) (by kernel_rfl) ?_
                                              · skip
                                                refine gb_ef_want rfl rfl rfl rfl (decide_eq_true (by rw [hn])) (ef_callq en_55 rfl (disk_Waits _ (B.take (endF B) ++ zs (64 * n - endF B)) 0 n (by have := end_le B; simp [zs_len]; omega)) (perm_one (i := 1) rfl) (fun hl I1 h1 h2 _ => dk_lend h1 h2) rfl) ?_
                                                rintro _ _ _ ⟨v155, ⟨j155, rfl, hj155⟩, rfl, rfl, rfl⟩
                                                refine ⟨sat_S (bl := []) trivial, ?_⟩
                                                refine ga_want 32 rfl rfl rfl rfl (decide_eq_true (by rw [hn])) (by kernel_rfl) (by kernel_rfl) rfl (y_eql rfl rfl) ?_
                                                refine ga_y 33 rfl (by kernel_rfl) (by kernel_rfl) rfl (y_pick_t rfl (decide_eq_true (by rw [hn])) rfl) ?_
                                                refine ga_y 34 rfl (by kernel_rfl) (by kernel_rfl) rfl (y_assign rfl) ?_
                                                refine ga_done (by kernel_rfl) ?_
                                                refine gq_then' ?_
                                                refine gc_ret ?_
                                                refine gq_r1 rfl rfl perm_all ?_
                                                first | exact rfl | exact congrArg Value.bool (decide_eq_true (by omega))
                                          · skip
                                            refine gb_y_want rfl rfl rfl rfl (decide_eq_true rfl) rfl (y_tostr (bytes := (zs (B.length - endF B))) Try.underlying36 Try.underlying5 Try.underlying9 rfl (blk_own (i := 6) rfl) (zs_len _) (made_get _)) ?_
                                            refine ga_all1 (i := 19) (by kernel_rfl) ?_
                                            · skip
                                              refine gb_y_want rfl rfl rfl rfl (decide_eq_true rfl) rfl (y_tostr (bytes := (B.take (endF B))) Try.underlying36 Try.underlying5 Try.underlying9 rfl (blk_own (i := 3) rfl) (show (B.take (endF B)).length = endF B by have := end_le B; rw [List.length_take]; omega) take_hv) ?_
                                              refine ga_want 26 rfl rfl rfl rfl (decide_eq_true rfl) (by kernel_rfl) (by kernel_rfl) rfl (y_sadd rfl rfl (by first | omega | (simp only [List.length_append, List.length_cons, List.length_nil, List.length_take, List.length_drop, List.length_map, List.length_replicate, List.length_set, u8s_length, fx_length, fixed_length, tabTo_len, tabV_len, zs_len, mk_len]; omega))) ?_
                                              refine ga_want 27 rfl rfl rfl rfl (decide_eq_true rfl) (by kernel_rfl) (by kernel_rfl) rfl (y_seql rfl rfl) ?_
                                              refine ga_y 28 rfl (by kernel_rfl) (by kernel_rfl) rfl (y_pick_t rfl (decide_eq_true rfl) rfl) ?_
                                              refine ga_y 29 rfl (by kernel_rfl) (by kernel_rfl) rfl (y_move rfl) ?_
                                              refine ga_want 30 rfl rfl rfl rfl (decide_eq_true (by rw [hn])) (by kernel_rfl) (by kernel_rfl) rfl (y_move rfl) ?_
                                              refine ga_all1 (i := 31) (by kernel_rfl) ?_
                                              · skip
                                                refine gb_ef_want rfl rfl rfl rfl (decide_eq_true (by rw [hn])) (ef_callq en_55 rfl (disk_Waits _ (B.take (endF B) ++ zs (64 * n - endF B)) 0 n (by have := end_le B; simp [zs_len]; omega)) (perm_one (i := 1) rfl) (fun hl I1 h1 h2 _ => dk_lend h1 h2) rfl) ?_
                                                rintro _ _ _ ⟨v155, ⟨j155, rfl, hj155⟩, rfl, rfl, rfl⟩
                                                refine ⟨sat_S (bl := []) trivial, ?_⟩
                                                refine ga_want 32 rfl rfl rfl rfl (decide_eq_true (by rw [hn])) (by kernel_rfl) (by kernel_rfl) rfl (y_eql rfl rfl) ?_
                                                refine ga_y 33 rfl (by kernel_rfl) (by kernel_rfl) rfl (y_pick_t rfl (decide_eq_true (by rw [hn])) rfl) ?_
                                                refine ga_y 34 rfl (by kernel_rfl) (by kernel_rfl) rfl (y_assign rfl) ?_
                                                refine ga_done (by kernel_rfl) ?_
                                                refine gq_then' ?_
                                                refine gc_ret ?_
                                                refine gq_r1 rfl rfl perm_all ?_
                                                first | exact rfl | exact congrArg Value.bool (decide_eq_true (by omega))
                                        · skip
                                          refine gb_y_want rfl rfl rfl rfl (decide_eq_true rfl) rfl (y_tostr (bytes := (B.take (endF B))) Try.underlying36 Try.underlying5 Try.underlying9 rfl (blk_own (i := 3) rfl) (show (B.take (endF B)).length = endF B by have := end_le B; rw [List.length_take]; omega) take_hv) ?_
                                          refine ga_all2 (i := 15) (j := 25) (by kernel_rfl) ?_ ?_
                                          · skip
                                            refine gb_ef_want rfl rfl rfl rfl (decide_eq_true rfl) (ef_callq en_48 rfl (law_bytes08 _ (B.take (endF B) ++ zs (64 * n - endF B)) 0 n (by have := end_le B; simp [zs_len]; omega) (by first | omega | (simp only [List.length_append, List.length_cons, List.length_nil, List.length_take, List.length_drop, List.length_map, List.length_replicate, List.length_set, u8s_length, fx_length, fixed_length, tabTo_len, tabV_len, zs_len, mk_len]; omega)) (by first | omega | (simp only [List.length_append, List.length_cons, List.length_nil, List.length_take, List.length_drop, List.length_map, List.length_replicate, List.length_set, u8s_length, fx_length, fixed_length, tabTo_len, tabV_len, zs_len, mk_len]; omega))) (perm_one (i := 1) rfl) (fun hl I1 h1 h2 _ => dk_lend h1 h2) rfl) ?_
                                            rintro _ _ _ ⟨v139, rfl, rfl, rfl, rfl⟩
                                            refine ⟨sat_S (bl := []) trivial, ?_⟩
                                            refine ga_all1 (i := 25) (by kernel_rfl) ?_
                                            · skip
                                              refine gb_y_want rfl rfl rfl rfl (decide_eq_true rfl) rfl (y_tostr (bytes := (zs (B.length - endF B))) Try.underlying36 Try.underlying5 Try.underlying9 rfl (blk_own (i := 6) rfl) (zs_len _) (made_get _)) ?_
                                              refine ga_want 26 rfl rfl rfl rfl (decide_eq_true rfl) (by kernel_rfl) (by kernel_rfl) rfl (y_sadd rfl rfl (by first | omega | (simp only [List.length_append, List.length_cons, List.length_nil, List.length_take, List.length_drop, List.length_map, List.length_replicate, List.length_set, u8s_length, fx_length, fixed_length, tabTo_len, tabV_len, zs_len, mk_len]; omega))) ?_
                                              refine ga_want 27 rfl rfl rfl rfl (decide_eq_true rfl) (by kernel_rfl) (by kernel_rfl) rfl (y_seql rfl rfl) ?_
                                              refine ga_y 28 rfl (by kernel_rfl) (by kernel_rfl) rfl (y_pick_t rfl (decide_eq_true rfl) rfl) ?_
                                              refine ga_y 29 rfl (by kernel_rfl) (by kernel_rfl) rfl (y_move rfl) ?_
                                              refine ga_want 30 rfl rfl rfl rfl (decide_eq_true (by rw [hn])) (by kernel_rfl) (by kernel_rfl) rfl (y_move rfl) ?_
                                              refine ga_all1 (i := 31) (by kernel_rfl) ?_
                                              · skip
                                                refine gb_ef_want rfl rfl rfl rfl (decide_eq_true (by rw [hn])) (ef_callq en_55 rfl (disk_Waits _ (B.take (endF B) ++ zs (64 * n - endF B)) 0 n (by have := end_le B; simp [zs_len]; omega)) (perm_one (i := 1) rfl) (fun hl I1 h1 h2 _ => dk_lend h1 h2) rfl) ?_
                                                rintro _ _ _ ⟨v155, ⟨j155, rfl, hj155⟩, rfl, rfl, rfl⟩
                                                refine ⟨sat_S (bl := []) trivial, ?_⟩
                                                refine ga_want 32 rfl rfl rfl rfl (decide_eq_true (by rw [hn])) (by kernel_rfl) (by kernel_rfl) rfl (y_eql rfl rfl) ?_
                                                refine ga_y 33 rfl (by kernel_rfl) (by kernel_rfl) rfl (y_pick_t rfl (decide_eq_true (by rw [hn])) rfl) ?_
                                                refine ga_y 34 rfl (by kernel_rfl) (by kernel_rfl) rfl (y_assign rfl) ?_
                                                refine ga_done (by kernel_rfl) ?_
                                                refine gq_then' ?_
                                                refine gc_ret ?_
                                                refine gq_r1 rfl rfl perm_all ?_
                                                first | exact rfl | exact congrArg Value.bool (decide_eq_true (by omega))
                                          · skip
                                            refine gb_y_want rfl rfl rfl rfl (decide_eq_true rfl) rfl (y_tostr (bytes := (zs (B.length - endF B))) Try.underlying36 Try.underlying5 Try.underlying9 rfl (blk_own (i := 6) rfl) (zs_len _) (made_get _)) ?_
                                            refine ga_want 26 rfl rfl rfl rfl (decide_eq_true rfl) (by kernel_rfl) (by kernel_rfl) rfl (y_sadd rfl rfl (by first | omega | (simp only [List.length_append, List.length_cons, List.length_nil, List.length_take, List.length_drop, List.length_map, List.length_replicate, List.length_set, u8s_length, fx_length, fixed_length, tabTo_len, tabV_len, zs_len, mk_len]; omega))) ?_
                                            refine ga_all1 (i := 15) (by kernel_rfl) ?_
                                            · skip
                                              refine gb_ef_want rfl rfl rfl rfl (decide_eq_true rfl) (ef_callq en_48 rfl (law_bytes08 _ (B.take (endF B) ++ zs (64 * n - endF B)) 0 n (by have := end_le B; simp [zs_len]; omega) (by first | omega | (simp only [List.length_append, List.length_cons, List.length_nil, List.length_take, List.length_drop, List.length_map, List.length_replicate, List.length_set, u8s_length, fx_length, fixed_length, tabTo_len, tabV_len, zs_len, mk_len]; omega)) (by first | omega | (simp only [List.length_append, List.length_cons, List.length_nil, List.length_take, List.length_drop, List.length_map, List.length_replicate, List.length_set, u8s_length, fx_length, fixed_length, tabTo_len, tabV_len, zs_len, mk_len]; omega))) (perm_one (i := 1) rfl) (fun hl I1 h1 h2 _ => dk_lend h1 h2) rfl) ?_
                                              rintro _ _ _ ⟨v139, rfl, rfl, rfl, rfl⟩
                                              refine ⟨sat_S (bl := []) trivial, ?_⟩
                                              refine ga_want 27 rfl rfl rfl rfl (decide_eq_true rfl) (by kernel_rfl) (by kernel_rfl) rfl (y_seql rfl rfl) ?_
                                              refine ga_y 28 rfl (by kernel_rfl) (by kernel_rfl) rfl (y_pick_t rfl (decide_eq_true rfl) rfl) ?_
                                              refine ga_y 29 rfl (by kernel_rfl) (by kernel_rfl) rfl (y_move rfl) ?_
                                              refine ga_want 30 rfl rfl rfl rfl (decide_eq_true (by rw [hn])) (by kernel_rfl) (by kernel_rfl) rfl (y_move rfl) ?_
                                              refine ga_all1 (i := 31) (by kernel_rfl) ?_
                                              · skip
                                                refine gb_ef_want rfl rfl rfl rfl (decide_eq_true (by rw [hn])) (ef_callq en_55 rfl (disk_Waits _ (B.take (endF B) ++ zs (64 * n - endF B)) 0 n (by have := end_le B; simp [zs_len]; omega)) (perm_one (i := 1) rfl) (fun hl I1 h1 h2 _ => dk_lend h1 h2) rfl) ?_
                                                rintro _ _ _ ⟨v155, ⟨j155, rfl, hj155⟩, rfl, rfl, rfl⟩
                                                refine ⟨sat_S (bl := []) trivial, ?_⟩
                                                refine ga_want 32 rfl rfl rfl rfl (decide_eq_true (by rw [hn])) (by kernel_rfl) (by kernel_rfl) rfl (y_eql rfl rfl) ?_
                                                refine ga_y 33 rfl (by kernel_rfl) (by kernel_rfl) rfl (y_pick_t rfl (decide_eq_true (by rw [hn])) rfl) ?_
                                                refine ga_y 34 rfl (by kernel_rfl) (by kernel_rfl) rfl (y_assign rfl) ?_
                                                refine ga_done (by kernel_rfl) ?_
                                                refine gq_then' ?_
                                                refine gc_ret ?_
                                                refine gq_r1 rfl rfl perm_all ?_
                                                first | exact rfl | exact congrArg Value.bool (decide_eq_true (by omega))
                                        · skip
                                          refine gb_y_want rfl rfl rfl rfl (decide_eq_true rfl) rfl (y_tostr (bytes := (zs (B.length - endF B))) Try.underlying36 Try.underlying5 Try.underlying9 rfl (blk_own (i := 6) rfl) (zs_len _) (made_get _)) ?_
                                          refine ga_all2 (i := 15) (j := 19) (by kernel_rfl) ?_ ?_
                                          · skip
                                            refine gb_ef_want rfl rfl rfl rfl (decide_eq_true rfl) (ef_callq en_48 rfl (law_bytes08 _ (B.take (endF B) ++ zs (64 * n - endF B)) 0 n (by have := end_le B; simp [zs_len]; omega) (by first | omega | (simp only [List.length_append, List.length_cons, List.length_nil, List.length_take, List.length_drop, List.length_map, List.length_replicate, List.length_set, u8s_length, fx_length, fixed_length, tabTo_len, tabV_len, zs_len, mk_len]; omega)) (by first | omega | (simp only [List.length_append, List.length_cons, List.length_nil, List.length_take, List.length_drop, List.length_map, List.length_replicate, List.length_set, u8s_length, fx_length, fixed_length, tabTo_len, tabV_len, zs_len, mk_len]; omega))) (perm_one (i := 1) rfl) (fun hl I1 h1 h2 _ => dk_lend h1 h2) rfl) ?_
                                            rintro _ _ _ ⟨v139, rfl, rfl, rfl, rfl⟩
                                            refine ⟨sat_S (bl := []) trivial, ?_⟩
                                            refine ga_all1 (i := 19) (by kernel_rfl) ?_
                                            · skip
                                              refine gb_y_want rfl rfl rfl rfl (decide_eq_true rfl) rfl (y_tostr (bytes := (B.take (endF B))) Try.underlying36 Try.underlying5 Try.underlying9 rfl (blk_own (i := 3) rfl) (show (B.take (endF B)).length = endF B by have := end_le B; rw [List.length_take]; omega) take_hv) ?_
                                              refine ga_want 26 rfl rfl rfl rfl (decide_eq_true rfl) (by kernel_rfl) (by kernel_rfl) rfl (y_sadd rfl rfl (by first | omega | (simp only [List.length_append, List.length_cons, List.length_nil, List.length_take, List.length_drop, List.length_map, List.length_replicate, List.length_set, u8s_length, fx_length, fixed_length, tabTo_len, tabV_len, zs_len, mk_len]; omega))) ?_
                                              refine ga_want 27 rfl rfl rfl rfl (decide_eq_true rfl) (by kernel_rfl) (by kernel_rfl) rfl (y_seql rfl rfl) ?_
                                              refine ga_y 28 rfl (by kernel_rfl) (by kernel_rfl) rfl (y_pick_t rfl (decide_eq_true rfl) rfl) ?_
                                              refine ga_y 29 rfl (by kernel_rfl) (by kernel_rfl) rfl (y_move rfl) ?_
                                              refine ga_want 30 rfl rfl rfl rfl (decide_eq_true (by rw [hn])) (by kernel_rfl) (by kernel_rfl) rfl (y_move rfl) ?_
                                              refine ga_all1 (i := 31) (by kernel_rfl) ?_
                                              · skip
                                                refine gb_ef_want rfl rfl rfl rfl (decide_eq_true (by rw [hn])) (ef_callq en_55 rfl (disk_Waits _ (B.take (endF B) ++ zs (64 * n - endF B)) 0 n (by have := end_le B; simp [zs_len]; omega)) (perm_one (i := 1) rfl) (fun hl I1 h1 h2 _ => dk_lend h1 h2) rfl) ?_
                                                rintro _ _ _ ⟨v155, ⟨j155, rfl, hj155⟩, rfl, rfl, rfl⟩
                                                refine ⟨sat_S (bl := []) trivial, ?_⟩
                                                refine ga_want 32 rfl rfl rfl rfl (decide_eq_true (by rw [hn])) (by kernel_rfl) (by kernel_rfl) rfl (y_eql rfl rfl) ?_
                                                refine ga_y 33 rfl (by kernel_rfl) (by kernel_rfl) rfl (y_pick_t rfl (decide_eq_true (by rw [hn])) rfl) ?_
                                                refine ga_y 34 rfl (by kernel_rfl) (by kernel_rfl) rfl (y_assign rfl) ?_
                                                refine ga_done (by kernel_rfl) ?_
                                                refine gq_then' ?_
                                                refine gc_ret ?_
                                                refine gq_r1 rfl rfl perm_all ?_
                                                first | exact rfl | exact congrArg Value.bool (decide_eq_true (by omega))
                                          · skip
                                            refine gb_y_want rfl rfl rfl rfl (decide_eq_true rfl) rfl (y_tostr (bytes := (B.take (endF B))) Try.underlying36 Try.underlying5 Try.underlying9 rfl (blk_own (i := 3) rfl) (show (B.take (endF B)).length = endF B by have := end_le B; rw [List.length_take]; omega) take_hv) ?_
                                            refine ga_want 26 rfl rfl rfl rfl (decide_eq_true rfl) (by kernel_rfl) (by kernel_rfl) rfl (y_sadd rfl rfl (by first | omega | (simp only [List.length_append, List.length_cons, List.length_nil, List.length_take, List.length_drop, List.length_map, List.length_replicate, List.length_set, u8s_length, fx_length, fixed_length, tabTo_len, tabV_len, zs_len, mk_len]; omega))) ?_
                                            refine ga_all1 (i := 15) (by kernel_rfl) ?_
                                            · skip
                                              refine gb_ef_want rfl rfl rfl rfl (decide_eq_true rfl) (ef_callq en_48 rfl (law_bytes08 _ (B.take (endF B) ++ zs (64 * n - endF B)) 0 n (by have := end_le B; simp [zs_len]; omega) (by first | omega | (simp only [List.length_append, List.length_cons, List.length_nil, List.length_take, List.length_drop, List.length_map, List.length_replicate, List.length_set, u8s_length, fx_length, fixed_length, tabTo_len, tabV_len, zs_len, mk_len]; omega)) (by first | omega | (simp only [List.length_append, List.length_cons, List.length_nil, List.length_take, List.length_drop, List.length_map, List.length_replicate, List.length_set, u8s_length, fx_length, fixed_length, tabTo_len, tabV_len, zs_len, mk_len]; omega))) (perm_one (i := 1) rfl) (fun hl I1 h1 h2 _ => dk_lend h1 h2) rfl) ?_
                                              rintro _ _ _ ⟨v139, rfl, rfl, rfl, rfl⟩
                                              refine ⟨sat_S (bl := []) trivial, ?_⟩
                                              refine ga_want 27 rfl rfl rfl rfl (decide_eq_true rfl) (by kernel_rfl) (by kernel_rfl) rfl (y_seql rfl rfl) ?_
                                              refine ga_y 28 rfl (by kernel_rfl) (by kernel_rfl) rfl (y_pick_t rfl (decide_eq_true rfl) rfl) ?_
                                              refine ga_y 29 rfl (by kernel_rfl) (by kernel_rfl) rfl (y_move rfl) ?_
                                              refine ga_want 30 rfl rfl rfl rfl (decide_eq_true (by rw [hn])) (by kernel_rfl) (by kernel_rfl) rfl (y_move rfl) ?_
                                              refine ga_all1 (i := 31) (by kernel_rfl) ?_
                                              · skip
                                                refine gb_ef_want rfl rfl rfl rfl (decide_eq_true (by rw [hn])) (ef_callq en_55 rfl (disk_Waits _ (B.take (endF B) ++ zs (64 * n - endF B)) 0 n (by have := end_le B; simp [zs_len]; omega)) (perm_one (i := 1) rfl) (fun hl I1 h1 h2 _ => dk_lend h1 h2) rfl) ?_
                                                rintro _ _ _ ⟨v155, ⟨j155, rfl, hj155⟩, rfl, rfl, rfl⟩
                                                refine ⟨sat_S (bl := []) trivial, ?_⟩
                                                refine ga_want 32 rfl rfl rfl rfl (decide_eq_true (by rw [hn])) (by kernel_rfl) (by kernel_rfl) rfl (y_eql rfl rfl) ?_
                                                refine ga_y 33 rfl (by kernel_rfl) (by kernel_rfl) rfl (y_pick_t rfl (decide_eq_true (by rw [hn])) rfl) ?_
                                                refine ga_y 34 rfl (by kernel_rfl) (by kernel_rfl) rfl (y_assign rfl) ?_
                                                refine ga_done (by kernel_rfl) ?_
                                                refine gq_then' ?_
                                                refine gc_ret ?_
                                                refine gq_r1 rfl rfl perm_all ?_
                                                first | exact rfl | exact congrArg Value.bool (decide_eq_true (by omega))
end Go.Proofs.YtnccebppgmnmfaaS
