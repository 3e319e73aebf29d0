/- keys: the law KeysDecodes, walked. -/
import Derived.Test.YtgoaclokjenpkaaDoorSepFacts
import Derived.Test.YtgoaclokjenpkaaDoorSepQ
import Derived.Test.YtgoaclokjenpkaaDoorXKeyslaw
import Derived.Test.YtgoaclokjenpkaaDoorXKeysdec
set_option linter.unusedVariables false
set_option linter.unusedSimpArgs false
set_option maxRecDepth 20000
namespace Go.Proofs.YtgoaclokjenpkaaDoorS
open Go.RowKit Go.Proofs

theorem decE_ok {s : List UInt8} (hs : s.length ≤ 1000000) (h : decE s = 0) : (∀ a ∈ decL s, a.x.ok) ∧ encAll (decL s) = s ∧ (decL s).length ≤ s.length := by
  unfold decE at h
  unfold decL
  cases e : dec s.length s with
  | none => rw [e] at h; cases h
  | some l => exact dec_sound _ s l hs e
theorem decE_bad {s : List UInt8} (h : decE s ≠ 0) : decE s = 2 ∧ decL s = [] := by
  unfold decE decL at *
  cases e : dec s.length s with
  | none => exact ⟨rfl, rfl⟩
  | some l => rw [e] at h; exact absurd rfl h

theorem law_KeysDecodes (s : List UInt8) : CtrQ Tryd.prog 7 [.string (bs s)] (KMax) (fun v => v = .bool true) := by
  refine CtrQ.of fun I hK => ?_
  refine ctr_of Tryd.func7 rfl (n := 41) rfl rfl ?_
  intro G R
  simp only [argL]
  refine gc_seq ?_
  refine gc_region ?_
  refine gl_y rfl (y_assign rfl) ?_
  refine gl_nil ?_
  refine gq_then' ?_
  refine gc_seq ?_
  refine gc_seq ?_
  refine gc_region ?_
  refine gl_ef (ef_callq en_8 rfl (law_awake) perm_all (fun _ _ _ _ h => hK.le h) rfl) ?_
  rintro _ _ _ ⟨v7, rfl, rfl, rfl, rfl⟩
  refine gl_y rfl (y_not rfl) ?_
  refine gl_y rfl (y_move rfl) ?_
  refine gl_want rfl rfl rfl rfl ?_
  refine gl_y rfl (y_move rfl) ?_
  refine gl_want rfl rfl rfl rfl ?_
  refine gl_y rfl (y_slen Tryd.underlying9 rfl) ?_
  refine gl_want rfl rfl rfl rfl ?_
  refine gl_y rfl (y_gtr rfl rfl) ?_
  refine gl_y rfl (y_pick_f rfl rfl rfl) ?_
  refine gl_nil ?_
  refine gq_then' ?_
  refine gc_if rfl (fun h13 => ?_) (fun h13 => ?_)
  · have g13 := h13
    try (replace g13 := of_decide_eq_true g13)
    first
    | exact absurd h13 (by decide)
    | (exfalso; omega)
    | skip
      refine gc_seq ?_
      refine gc_region ?_
      refine gl_ef (ef_callq en_8 rfl (law_awake) perm_all (fun _ _ _ _ h => hK.le h) rfl) ?_
      rintro _ _ _ ⟨v14, rfl, rfl, rfl, rfl⟩
      refine gl_y rfl (y_assign rfl) ?_
      refine gl_nil ?_
      refine gq_then' ?_
      refine gc_ret ?_
      refine gq_pass_ret ?_
      refine gq_r1 rfl rfl perm_all ?_
      exact rfl
  · have g13 := h13
    try (replace g13 := of_decide_eq_false g13)
    first
    | exact absurd h13 (by decide)
    | (exfalso; omega)
    | skip
      refine gc_skip ?_
      refine gq_then' ?_
      refine gc_seq ?_
      refine gc_region ?_
      refine gl_y rfl (y_move rfl) ?_
      refine gl_ef (ef_callm en_15 rfl (keys_Decode _ (by first | omega | (simp only [List.length_append, List.length_cons, List.length_nil, List.length_take, List.length_drop, List.length_map, List.length_replicate, List.length_set, u8s_length, fx_length, fixed_length, turn_length]; omega))) perm_all rfl) ?_
      rintro _ _ _ ⟨v17, Mc17, ⟨A17, rfl, rfl⟩, rfl, rfl, rfl⟩
      refine gl_frz 0 rfl ?_
      rintro I17 a17 c17 hle17 rfl hR17
      replace hK := hK.le hle17
      refine gl_y rfl (y_move rfl) ?_
      refine gl_y rfl (y_extract rfl rfl) ?_
      refine gl_y rfl (y_extract rfl rfl) ?_
      refine gl_y rfl (y_assign rfl) ?_
      refine gl_y rfl (y_assign rfl) ?_
      refine gl_nil ?_
      refine gq_then' ?_
      refine gc_seq ?_
      refine gc_seq ?_
      refine gc_region ?_
      refine gl_y rfl (y_move rfl) ?_
      refine gl_y rfl (y_neq rfl rfl) ?_
      refine gl_nil ?_
      refine gq_then' ?_
      refine gc_if rfl (fun h21 => ?_) (fun h21 => ?_)
      · have g21 := h21
        try (replace g21 := of_decide_eq_true g21)
        first
        | exact absurd h21 (by decide)
        | (exfalso; omega)
        | skip
          refine gc_seq ?_
          refine gc_region ?_
          refine gl_y rfl (y_move rfl) ?_
          refine gl_y rfl (y_eql rfl rfl) ?_
          refine gl_y rfl (y_move rfl) ?_
          refine gl_if (t := 24) rfl (fun h24 => ?_) (fun h24 => ?_)
          · have g24 := h24
            try (replace g24 := of_decide_eq_true g24)
            first
            | exact absurd h24 (by decide)
            | (exfalso; omega)
            | skip
              refine gl_want rfl rfl rfl h24 ?_
              refine gl_y rfl (y_move rfl) ?_
              refine gl_want rfl rfl rfl h24 ?_
              refine gl_y rfl (y_len Tryd.underlying36 rfl) ?_
              refine gl_want rfl rfl rfl h24 ?_
              refine gl_y rfl (y_eql rfl rfl) ?_
              refine gl_y rfl (y_pick_t rfl h24 rfl) ?_
              refine gl_y rfl (y_assign rfl) ?_
              refine gl_nil ?_
              refine gq_then' ?_
              refine gc_ret ?_
              refine gq_pass_ret ?_
              have hB := decE_bad (s := s) (by omega)
              refine gq_part perm_all ?_
              refine gq_ret1 rfl rfl hle17 ?_
              show Value.bool _ = _
              first | exact congrArg Value.bool (decide_eq_true (by rw [hB.2]; rfl)) | (exfalso; omega)
          · have g24 := h24
            try (replace g24 := of_decide_eq_false g24)
            first
            | exact absurd h24 (by decide)
            | (exfalso; omega)
            | skip
              refine gl_skip rfl rfl rfl h24 rfl ?_
              refine gl_skip rfl rfl rfl h24 rfl ?_
              refine gl_skip rfl rfl rfl h24 rfl ?_
              refine gl_y rfl (y_pick_f rfl h24 rfl) ?_
              refine gl_y rfl (y_assign rfl) ?_
              refine gl_nil ?_
              refine gq_then' ?_
              refine gc_ret ?_
              refine gq_pass_ret ?_
              have hB := decE_bad (s := s) (by omega)
              refine gq_part perm_all ?_
              refine gq_ret1 rfl rfl hle17 ?_
              exfalso; omega
      · have g21 := h21
        try (replace g21 := of_decide_eq_false g21)
        first
        | exact absurd h21 (by decide)
        | (exfalso; omega)
        | skip
          refine gc_skip ?_
          refine gq_then' ?_
          refine gc_seq ?_
          refine gc_region ?_
          refine gl_y rfl (y_move rfl) ?_
          have hD := decE_ok (s := s) (by omega) (by omega)
          refine gl_ef (ef_callq en_10 rfl (keys_Encode _ _ (decL s) (by have := hD.2.2; omega) hD.1) perm_all (fun _ _ _ _ h => ⟨hK.le h, hR17.mono h⟩) rfl) ?_
          rintro _ _ _ ⟨v31, rfl, rfl, rfl, rfl⟩
          refine gl_y rfl (y_move rfl) ?_
          refine gl_y rfl (y_extract rfl rfl) ?_
          refine gl_y rfl (y_extract rfl rfl) ?_
          refine gl_y rfl (y_assign rfl) ?_
          refine gl_y rfl (y_assign rfl) ?_
          refine gl_nil ?_
          refine gq_then' ?_
          refine gc_seq ?_
          refine gc_region ?_
          refine gl_y rfl (y_move rfl) ?_
          refine gl_y rfl (y_eql rfl rfl) ?_
          refine gl_y rfl (y_move rfl) ?_
          refine gl_if (t := 36) rfl (fun h36 => ?_) (fun h36 => ?_)
          · have g36 := h36
            try (replace g36 := of_decide_eq_true g36)
            first
            | exact absurd h36 (by decide)
            | (exfalso; omega)
            | skip
              refine gl_want rfl rfl rfl h36 ?_
              refine gl_y rfl (y_move rfl) ?_
              refine gl_want rfl rfl rfl h36 ?_
              refine gl_y rfl (y_move rfl) ?_
              refine gl_want rfl rfl rfl h36 ?_
              refine gl_y rfl (y_seql rfl rfl) ?_
              refine gl_y rfl (y_pick_t rfl h36 rfl) ?_
              refine gl_y rfl (y_assign rfl) ?_
              refine gl_nil ?_
              refine gq_then' ?_
              refine gc_ret ?_
              refine gq_part perm_all ?_
              refine gq_ret1 rfl rfl hle17 ?_
              exact congrArg Value.bool (decide_eq_true hD.2.1)
          · have g36 := h36
            try (replace g36 := of_decide_eq_false g36)
            first
            | exact absurd h36 (by decide)
            | (exfalso; omega)
            | skip
              refine gl_skip rfl rfl rfl h36 rfl ?_
              refine gl_skip rfl rfl rfl h36 rfl ?_
              refine gl_skip rfl rfl rfl h36 rfl ?_
              refine gl_y rfl (y_pick_f rfl h36 rfl) ?_
              refine gl_y rfl (y_assign rfl) ?_
              refine gl_nil ?_
              refine gq_then' ?_
              refine gc_ret ?_
              refine gq_part perm_all ?_
              refine gq_ret1 rfl rfl hle17 ?_
              exact rfl
end Go.Proofs.YtgoaclokjenpkaaDoorS
