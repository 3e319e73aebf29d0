/- keys: the law KeysOrder, joined. -/
import Derived.Test.YtgoaclokjenpkaaDoorSepFacts
import Derived.Test.YtgoaclokjenpkaaDoorSepQ
import Derived.Test.YtgoaclokjenpkaaDoorXKeysorder
set_option linter.unusedVariables false
set_option linter.unusedSimpArgs false
set_option maxRecDepth 20000
namespace Go.Proofs.YtgoaclokjenpkaaDoorS
open Go.RowKit Go.Proofs

theorem less_cmp {l m : List KItem} (hl : ∀ a ∈ l, a.x.ok) (hm : ∀ a ∈ m, a.x.ok) : (Op.bytesLess (encAll l) (encAll m) == decide (cmpAll l m < 0)) = true := by
  rw [cb_less, cmpAll_law l m hl hm]; simp
theorem same_cmp {l m : List KItem} (hl : ∀ a ∈ l, a.x.ok) (hm : ∀ a ∈ m, a.x.ok) : (decide (encAll l = encAll m) == decide (cmpAll l m = 0)) = true := by
  rw [← cmpAll_law l m hl hm]
  have := cb_eq (encAll l) (encAll m)
  simp [this]

theorem law_KeysOrder (A B : Option Addr) (ca cb : Nat) (a b : List RI) (hla : a.length ≤ 9223372036854775807) (hlb : b.length ≤ 9223372036854775807) (hoa : ∀ r ∈ a, r.ok) (hob : ∀ r ∈ b, r.ok) : CtrQ Tryd.prog 4 [.slice A a.length ca, .slice B b.length cb] (fun I => KMax I ∧ Rsl I 5 A a.length ((a.map RI.cells).flatten) ∧ Rsl I 5 B b.length ((b.map RI.cells).flatten)) (fun v => v = .bool true) := by
  refine CtrQ.of fun I hK => ?_
  obtain ⟨hK, hRa, hRb⟩ := hK
  refine ctr_of Tryd.func4 rfl (n := 71) rfl rfl ?_
  intro G R
  simp only [argL]
  refine gc_seq ?_
  refine gc_region ?_
  refine gl_y rfl (y_assign rfl) ?_
  refine gl_nil ?_
  refine gq_then' ?_
  refine gc_seq ?_
  refine gc_seq ?_
  refine gc_region ?_
  refine gl_ef (ef_callq en_8 rfl (law_awake) perm_all (fun _ _ _ _ h => hK.le h) rfl) ?_
  rintro _ _ _ ⟨v12, rfl, rfl, rfl, rfl⟩
  refine gl_y rfl (y_not rfl) ?_
  refine gl_y rfl (y_move rfl) ?_
  refine gl_want rfl rfl rfl rfl ?_
  refine gl_y rfl (y_move rfl) ?_
  refine gl_want rfl rfl rfl rfl ?_
  refine gl_ef (ef_callq en_9 rfl (ref_Few _ _ a (by omega)) perm_all (fun _ _ _ _ h => hRa.mono h) rfl) ?_
  rintro _ _ _ ⟨v16, rfl, rfl, rfl, rfl⟩
  refine gl_want rfl rfl rfl rfl ?_
  refine gl_y rfl (y_not rfl) ?_
  refine gl_y rfl (y_pick_f rfl rfl rfl) ?_
  refine gl_y rfl (y_move rfl) ?_
  refine gl_if (t := 19) rfl (fun h19 => ?_) (fun h19 => ?_)
  · have g19 := h19
    try (replace g19 := of_decide_eq_true g19)
    first
    | exact absurd h19 (by decide)
    | (exfalso; omega)
    | (exfalso; exact absurd rfl g19)
    | skip
      refine gl_skip rfl rfl rfl h19 rfl ?_
      refine gl_skip rfl rfl rfl h19 rfl ?_
      refine gl_skip rfl rfl rfl h19 rfl ?_
      refine gl_y rfl (y_pick_t rfl h19 rfl) ?_
      refine gl_nil ?_
      refine gq_then' ?_
      refine gc_t rfl rfl ?_
      refine gc_seq ?_
      refine gc_region ?_
      refine gl_ef (ef_callq en_8 rfl (law_awake) perm_all (fun _ _ _ _ h => hK.le h) rfl) ?_
      rintro _ _ _ ⟨v24, rfl, rfl, rfl, rfl⟩
      refine gl_y rfl (y_assign rfl) ?_
      refine gl_nil ?_
      refine gq_then' ?_
      refine gc_ret ?_
      refine gq_pass_ret ?_
      refine gq_r1 rfl rfl perm_all ?_
      first
      | exact congrArg Value.bool hB2
      | rfl
  · have g19 := h19
    try (replace g19 := of_decide_eq_false g19)
    first
    | exact absurd h19 (by decide)
    | (exfalso; omega)
    | (exfalso; exact absurd rfl g19)
    | skip
      refine gl_want rfl rfl rfl h19 ?_
      refine gl_y rfl (y_move rfl) ?_
      refine gl_want rfl rfl rfl h19 ?_
      refine gl_ef (ef_callq en_9 rfl (ref_Few _ _ b (by omega)) perm_all (fun _ _ _ _ h => hRb.mono h) rfl) ?_
      rintro _ _ _ ⟨v21, rfl, rfl, rfl, rfl⟩
      refine gl_want rfl rfl rfl h19 ?_
      refine gl_y rfl (y_not rfl) ?_
      refine gl_y rfl (y_pick_f rfl h19 rfl) ?_
      refine gl_nil ?_
      refine gq_then' ?_
      refine gc_if rfl (fun h23 => ?_) (fun h23 => ?_)
      · have g23 := h23
        try (replace g23 := of_decide_eq_true g23)
        first
        | exact absurd h23 (by decide)
        | (exfalso; omega)
        | (exfalso; exact absurd rfl g23)
        | skip
          refine gc_seq ?_
          refine gc_region ?_
          refine gl_ef (ef_callq en_8 rfl (law_awake) perm_all (fun _ _ _ _ h => hK.le h) rfl) ?_
          rintro _ _ _ ⟨v24, rfl, rfl, rfl, rfl⟩
          refine gl_y rfl (y_assign rfl) ?_
          refine gl_nil ?_
          refine gq_then' ?_
          refine gc_ret ?_
          refine gq_pass_ret ?_
          refine gq_r1 rfl rfl perm_all ?_
          first
          | exact congrArg Value.bool hB2
          | rfl
      · have g23 := h23
        try (replace g23 := of_decide_eq_false g23)
        first
        | exact absurd h23 (by decide)
        | (exfalso; omega)
        | (exfalso; exact absurd rfl g23)
        | skip
          refine gc_skip ?_
          refine gq_then' ?_
          refine gc_seq ?_
          refine gc_region ?_
          have hfa : rfew a = true := by simpa using h19
          have hfb : rfew b = true := by simpa using h23
          have hta := rfew_text hfa
          have htb := rfew_text hfb
          have hla12 : a.length ≤ 12 := by simp only [rfew, Bool.and_eq_true, decide_eq_true_eq] at hfa; exact hfa.2
          have hlb12 : b.length ≤ 12 := by simp only [rfew, Bool.and_eq_true, decide_eq_true_eq] at hfb; exact hfb.2
          have hB1 := less_cmp (items_ok hoa hta) (items_ok hob htb)
          have hB2 := same_cmp (items_ok hoa hta) (items_ok hob htb)
          refine gl_y rfl (y_move rfl) ?_
          refine gl_y rfl (y_move rfl) ?_
          refine gl_ef (ef_callq en_12 rfl (ref_CompareAll _ _ _ _ a b (by first | omega | (simp only [List.length_append, List.length_cons, List.length_nil, List.length_take, List.length_drop, List.length_map, List.length_replicate, List.length_set, u8s_length, fx_length, fixed_length, turn_length]; omega)) (by first | omega | (simp only [List.length_append, List.length_cons, List.length_nil, List.length_take, List.length_drop, List.length_map, List.length_replicate, List.length_set, u8s_length, fx_length, fixed_length, turn_length]; omega)) hoa hob) perm_all (fun _ _ _ _ h => ⟨hRa.mono h, hRb.mono h⟩) rfl) ?_
          rintro _ _ _ ⟨v27, rfl, rfl, rfl, rfl⟩
          refine gl_y rfl (y_assign rfl) ?_
          refine gl_nil ?_
          refine gq_then' ?_
          refine gc_seq ?_
          refine gc_region ?_
          refine gl_y rfl (y_move rfl) ?_
          refine gl_ef (ef_callm en_14 rfl (law_all _ _ a (by first | omega | (simp only [List.length_append, List.length_cons, List.length_nil, List.length_take, List.length_drop, List.length_map, List.length_replicate, List.length_set, u8s_length, fx_length, fixed_length, turn_length]; omega)) hoa hRa) perm_all rfl) ?_
          rintro _ _ _ ⟨v30, Mc30, rfl, rfl, rfl, rfl⟩
          refine gl_frz 0 rfl ?_
          rintro I30 a30 c30 hle30 rfl hR30
          replace hK := hK.le hle30
          replace hRa := hRa.mono hle30
          replace hRb := hRb.mono hle30
          refine gl_y rfl (y_move rfl) ?_
          refine gl_ef (ef_callm en_14 rfl (law_all _ _ b (by first | omega | (simp only [List.length_append, List.length_cons, List.length_nil, List.length_take, List.length_drop, List.length_map, List.length_replicate, List.length_set, u8s_length, fx_length, fixed_length, turn_length]; omega)) hob hRb) perm_all rfl) ?_
          rintro _ _ _ ⟨v32, Mc32, rfl, rfl, rfl, rfl⟩
          refine gl_frz 0 rfl ?_
          rintro I32 a32 c32 hle32 rfl hR32
          replace hK := hK.le hle32
          replace hRa := hRa.mono hle32
          replace hRb := hRb.mono hle32
          replace hR30 := hR30.mono hle32
          refine gl_ef (ef_callq en_13 rfl (keys_Compare _ _ _ _ a b (by first | omega | (simp only [List.length_append, List.length_cons, List.length_nil, List.length_take, List.length_drop, List.length_map, List.length_replicate, List.length_set, u8s_length, fx_length, fixed_length, turn_length]; omega)) (by first | omega | (simp only [List.length_append, List.length_cons, List.length_nil, List.length_take, List.length_drop, List.length_map, List.length_replicate, List.length_set, u8s_length, fx_length, fixed_length, turn_length]; omega)) hoa hob hta htb) perm_all (fun _ _ _ _ h => ⟨hK.le h, hR30.mono h, hR32.mono h⟩) rfl) ?_
          rintro _ _ _ ⟨v33, rfl, rfl, rfl, rfl⟩
          refine gl_y rfl (y_move rfl) ?_
          refine gl_y rfl (y_extract rfl rfl) ?_
          refine gl_y rfl (y_extract rfl rfl) ?_
          refine gl_y rfl (y_assign rfl) ?_
          refine gl_y rfl (y_assign rfl) ?_
          refine gl_nil ?_
          refine gq_then' ?_
          refine gc_seq ?_
          refine gc_region ?_
          refine gl_y rfl (y_move rfl) ?_
          refine gl_ef (ef_callm en_14 rfl (law_all _ _ a (by first | omega | (simp only [List.length_append, List.length_cons, List.length_nil, List.length_take, List.length_drop, List.length_map, List.length_replicate, List.length_set, u8s_length, fx_length, fixed_length, turn_length]; omega)) hoa hRa) perm_all rfl) ?_
          rintro _ _ _ ⟨v38, Mc38, rfl, rfl, rfl, rfl⟩
          refine gl_frz 0 rfl ?_
          rintro I38 a38 c38 hle38 rfl hR38
          replace hK := hK.le hle38
          replace hRa := hRa.mono hle38
          replace hRb := hRb.mono hle38
          refine gl_ef (ef_callq en_10 rfl (keys_EncodeI _ _ a (by first | omega | (simp only [List.length_append, List.length_cons, List.length_nil, List.length_take, List.length_drop, List.length_map, List.length_replicate, List.length_set, u8s_length, fx_length, fixed_length, turn_length]; omega)) hoa hta) perm_all (fun _ _ _ _ h => ⟨hK.le h, hR38.mono h⟩) rfl) ?_
          rintro _ _ _ ⟨v39, rfl, rfl, rfl, rfl⟩
          refine gl_y rfl (y_move rfl) ?_
          refine gl_y rfl (y_extract rfl rfl) ?_
          refine gl_y rfl (y_extract rfl rfl) ?_
          refine gl_y rfl (y_assign rfl) ?_
          refine gl_y rfl (y_assign rfl) ?_
          refine gl_nil ?_
          refine gq_then' ?_
          refine gc_seq ?_
          refine gc_region ?_
          refine gl_y rfl (y_move rfl) ?_
          refine gl_ef (ef_callm en_14 rfl (law_all _ _ b (by first | omega | (simp only [List.length_append, List.length_cons, List.length_nil, List.length_take, List.length_drop, List.length_map, List.length_replicate, List.length_set, u8s_length, fx_length, fixed_length, turn_length]; omega)) hob hRb) perm_all rfl) ?_
          rintro _ _ _ ⟨v44, Mc44, rfl, rfl, rfl, rfl⟩
          refine gl_frz 0 rfl ?_
          rintro I44 a44 c44 hle44 rfl hR44
          replace hK := hK.le hle44
          refine gl_ef (ef_callq en_10 rfl (keys_EncodeI _ _ b (by first | omega | (simp only [List.length_append, List.length_cons, List.length_nil, List.length_take, List.length_drop, List.length_map, List.length_replicate, List.length_set, u8s_length, fx_length, fixed_length, turn_length]; omega)) hob htb) perm_all (fun _ _ _ _ h => ⟨hK.le h, hR44.mono h⟩) rfl) ?_
          rintro _ _ _ ⟨v45, rfl, rfl, rfl, rfl⟩
          refine gl_y rfl (y_move rfl) ?_
          refine gl_y rfl (y_extract rfl rfl) ?_
          refine gl_y rfl (y_extract rfl rfl) ?_
          refine gl_y rfl (y_assign rfl) ?_
          refine gl_y rfl (y_assign rfl) ?_
          refine gl_nil ?_
          refine gq_then' ?_
          refine gc_seq ?_
          refine gc_region ?_
          refine gl_y rfl (y_move rfl) ?_
          refine gl_y rfl (y_eql rfl rfl) ?_
          refine gl_y rfl (y_move rfl) ?_
          refine gl_if (t := 50) rfl (fun h50 => ?_) (fun h50 => ?_)
          · have g50 := h50
            try (replace g50 := of_decide_eq_true g50)
            first
            | exact absurd h50 (by decide)
            | (exfalso; omega)
            | (exfalso; exact absurd rfl g50)
            | skip
              refine gl_want rfl rfl rfl h50 ?_
              refine gl_y rfl (y_move rfl) ?_
              refine gl_want rfl rfl rfl h50 ?_
              refine gl_y rfl (y_move rfl) ?_
              refine gl_want rfl rfl rfl h50 ?_
              refine gl_y rfl (y_eql rfl rfl) ?_
              refine gl_y rfl (y_pick_t rfl h50 rfl) ?_
              refine gl_y rfl (y_move rfl) ?_
              refine gl_if (t := 55) rfl (fun h55 => ?_) (fun h55 => ?_)
              · have g55 := h55
                try (replace g55 := of_decide_eq_true g55)
                first
                | exact absurd h55 (by decide)
                | (exfalso; omega)
                | (exfalso; exact absurd rfl g55)
                | skip
                  refine gl_want rfl rfl rfl h55 ?_
                  refine gl_y rfl (y_move rfl) ?_
                  refine gl_want rfl rfl rfl h55 ?_
                  refine gl_y rfl (y_move rfl) ?_
                  refine gl_want rfl rfl rfl h55 ?_
                  refine gl_y rfl (y_slss rfl rfl) ?_
                  refine gl_want rfl rfl rfl h55 ?_
                  refine gl_y rfl (y_move rfl) ?_
                  refine gl_want rfl rfl rfl h55 ?_
                  refine gl_y rfl (y_lss rfl rfl) ?_
                  refine gl_want rfl rfl rfl h55 ?_
                  refine gl_y rfl (y_beql Tryd.underlying4 rfl rfl) ?_
                  refine gl_y rfl (y_pick_t rfl h55 rfl) ?_
                  refine gl_y rfl (y_move rfl) ?_
                  refine gl_want rfl rfl rfl hB1 ?_
                  refine gl_y rfl (y_move rfl) ?_
                  refine gl_want rfl rfl rfl hB1 ?_
                  refine gl_y rfl (y_move rfl) ?_
                  refine gl_want rfl rfl rfl hB1 ?_
                  refine gl_y rfl (y_seql rfl rfl) ?_
                  refine gl_want rfl rfl rfl hB1 ?_
                  refine gl_y rfl (y_move rfl) ?_
                  refine gl_want rfl rfl rfl hB1 ?_
                  refine gl_y rfl (y_eql rfl rfl) ?_
                  refine gl_want rfl rfl rfl hB1 ?_
                  refine gl_y rfl (y_beql Tryd.underlying4 rfl rfl) ?_
                  refine gl_y rfl (y_pick_t rfl hB1 rfl) ?_
                  refine gl_y rfl (y_assign rfl) ?_
                  refine gl_nil ?_
                  refine gq_then' ?_
                  refine gc_ret ?_
                  refine gq_part perm_all ?_
                  refine gq_ret1 rfl rfl (PH.le_trans (PH.le_trans (PH.le_trans hle30 hle32) hle38) hle44) ?_
                  first
                  | exact congrArg Value.bool hB2
                  | rfl
              · have g55 := h55
                try (replace g55 := of_decide_eq_false g55)
                first
                | exact absurd h55 (by decide)
                | (exfalso; omega)
                | (exfalso; exact absurd rfl g55)
                | skip
                  refine gl_skip rfl rfl rfl h55 rfl ?_
                  refine gl_skip rfl rfl rfl h55 rfl ?_
                  refine gl_skip rfl rfl rfl h55 rfl ?_
                  refine gl_skip rfl rfl rfl h55 rfl ?_
                  refine gl_skip rfl rfl rfl h55 rfl ?_
                  refine gl_skip rfl rfl rfl h55 rfl ?_
                  refine gl_y rfl (y_pick_f rfl h55 rfl) ?_
                  refine gl_y rfl (y_move rfl) ?_
                  refine gl_skip rfl rfl rfl rfl rfl ?_
                  refine gl_skip rfl rfl rfl rfl rfl ?_
                  refine gl_skip rfl rfl rfl rfl rfl ?_
                  refine gl_skip rfl rfl rfl rfl rfl ?_
                  refine gl_skip rfl rfl rfl rfl rfl ?_
                  refine gl_skip rfl rfl rfl rfl rfl ?_
                  refine gl_y rfl (y_pick_f rfl rfl rfl) ?_
                  refine gl_y rfl (y_assign rfl) ?_
                  refine gl_nil ?_
                  refine gq_then' ?_
                  refine gc_ret ?_
                  refine gq_part perm_all ?_
                  refine gq_ret1 rfl rfl (PH.le_trans (PH.le_trans (PH.le_trans hle30 hle32) hle38) hle44) ?_
                  first
                  | exact congrArg Value.bool hB2
                  | rfl
          · have g50 := h50
            try (replace g50 := of_decide_eq_false g50)
            first
            | exact absurd h50 (by decide)
            | (exfalso; omega)
            | (exfalso; exact absurd rfl g50)
            | skip
              refine gl_skip rfl rfl rfl h50 rfl ?_
              refine gl_skip rfl rfl rfl h50 rfl ?_
              refine gl_skip rfl rfl rfl h50 rfl ?_
              refine gl_y rfl (y_pick_f rfl h50 rfl) ?_
              refine gl_y rfl (y_move rfl) ?_
              refine gl_skip rfl rfl rfl rfl rfl ?_
              refine gl_skip rfl rfl rfl rfl rfl ?_
              refine gl_skip rfl rfl rfl rfl rfl ?_
              refine gl_skip rfl rfl rfl rfl rfl ?_
              refine gl_skip rfl rfl rfl rfl rfl ?_
              refine gl_skip rfl rfl rfl rfl rfl ?_
              refine gl_y rfl (y_pick_f rfl rfl rfl) ?_
              refine gl_y rfl (y_move rfl) ?_
              refine gl_skip rfl rfl rfl rfl rfl ?_
              refine gl_skip rfl rfl rfl rfl rfl ?_
              refine gl_skip rfl rfl rfl rfl rfl ?_
              refine gl_skip rfl rfl rfl rfl rfl ?_
              refine gl_skip rfl rfl rfl rfl rfl ?_
              refine gl_skip rfl rfl rfl rfl rfl ?_
              refine gl_y rfl (y_pick_f rfl rfl rfl) ?_
              refine gl_y rfl (y_assign rfl) ?_
              refine gl_nil ?_
              refine gq_then' ?_
              refine gc_ret ?_
              refine gq_part perm_all ?_
              refine gq_ret1 rfl rfl (PH.le_trans (PH.le_trans (PH.le_trans hle30 hle32) hle38) hle44) ?_
              first
              | exact congrArg Value.bool hB2
              | rfl
end Go.Proofs.YtgoaclokjenpkaaDoorS
