/- keys: the law KeysOrder, walked. -/
import Derived.Test.YtgoaclokjenpkaaDoorSepFacts
import Derived.Test.YtgoaclokjenpkaaDoorSepQ
import Derived.Test.YtgoaclokjenpkaaDoorKeysO
import Derived.Test.YtgoaclokjenpkaaDoorXKeysencodes
set_option linter.unusedVariables false
set_option linter.unusedSimpArgs false
set_option maxRecDepth 20000
namespace Go.Proofs.YtgoaclokjenpkaaDoorS
open Go.RowKit Go.Proofs

theorem neg_sgn (p q : Bool) : IntKind.i64.wrap (0 - sgn p q) = -(sgn p q) := by cases p <;> cases q <;> decide
theorem kit_rank (r : RI) : r.kit.rank = r.kind % 6 := by
  have : r.kind % 6 = 0 ∨ r.kind % 6 = 1 ∨ r.kind % 6 = 2 ∨ r.kind % 6 = 3 ∨ r.kind % 6 = 4 ∨ r.kind % 6 = 5 := by omega
  rcases this with e | e | e | e | e | e <;> simp [RI.kit, e, KIt.rank]
def kindCmp (a b : RI) : Int := sgn (decide (((a.kind % 6 : Nat) : Int) < ((b.kind % 6 : Nat) : Int))) (decide (((b.kind % 6 : Nat) : Int) < ((a.kind % 6 : Nat) : Int)))
theorem kindCmp_eq (a b : RI) : kindCmp a b = sgn (decide (a.kit.rank < b.kit.rank)) (decide (a.kit.rank > b.kit.rank)) := by
  rw [kit_rank, kit_rank]
  unfold kindCmp
  simp only [Int.ofNat_lt]
theorem kit_ne {a b : RI} (h : kindCmp a b ≠ 0) : a.kit.cmp b.kit = kindCmp a b := by
  rw [kindCmp_eq] at h ⊢
  simp only [KIt.cmp]
  rw [if_neg h]
theorem kind_same {a b : RI} (h : kindCmp a b = 0) : a.kind % 6 = b.kind % 6 := by
  unfold kindCmp sgn at h
  simp only [Int.ofNat_lt] at h
  by_cases h1 : a.kind % 6 < b.kind % 6
  · rw [if_pos (by simpa using h1)] at h; cases h
  · by_cases h2 : b.kind % 6 < a.kind % 6
    · rw [if_neg (by simpa using h1), if_pos (by simpa using h2)] at h; cases h
    · omega
theorem kit_int {a b : RI} (h : kindCmp a b = 0) (h3 : ((a.kind % 6 : Nat) : Int) = 3) : a.kit.cmp b.kit = sgn (decide (a.int < b.int)) (decide (b.int < a.int)) := by
  have e := kind_same h
  have h3' : a.kind % 6 = 3 := by omega
  have h4 : b.kind % 6 = 3 := by omega
  simp [RI.kit, h3', h4, KIt.cmp, KIt.rank]; simp [sgn]
theorem kit_uint {a b : RI} (h : kindCmp a b = 0) (h3 : ((a.kind % 6 : Nat) : Int) = 4) : a.kit.cmp b.kit = sgn (decide ((a.uint : Int) < (b.uint : Int))) (decide ((b.uint : Int) < (a.uint : Int))) := by
  have e := kind_same h
  have h3' : a.kind % 6 = 4 := by omega
  have h4 : b.kind % 6 = 4 := by omega
  simp [RI.kit, h3', h4, KIt.cmp, KIt.rank]; simp [sgn]
theorem kit_text {a b : RI} (h : kindCmp a b = 0) (h3 : ((a.kind % 6 : Nat) : Int) = 5) : a.kit.cmp b.kit = sgn (Op.bytesLess a.text b.text) (Op.bytesLess b.text a.text) := by
  have e := kind_same h
  have h3' : a.kind % 6 = 5 := by omega
  have h4 : b.kind % 6 = 5 := by omega
  simp [RI.kit, h3', h4, KIt.cmp, KIt.rank]; simp [sgn]
theorem kit_zero {a b : RI} (h : kindCmp a b = 0) (h3 : ((a.kind % 6 : Nat) : Int) ≠ 3) (h4 : ((a.kind % 6 : Nat) : Int) ≠ 4) (h5 : ((a.kind % 6 : Nat) : Int) ≠ 5) : a.kit.cmp b.kit = kindCmp a b := by
  have e := kind_same h
  have : a.kind % 6 = 0 ∨ a.kind % 6 = 1 ∨ a.kind % 6 = 2 := by omega
  rw [h]
  rcases this with e1 | e1 | e1 <;> (have e2 := e1; rw [e] at e2) <;> simp [RI.kit, e1, e2, KIt.cmp, KIt.rank] <;> simp [sgn]
theorem item_cmp_down {a b : RI} (h : a.down ≠ b.down) : a.item.cmp b.item = sgn b.down a.down := by simp [KItem.cmp, RI.item, h]
theorem item_cmp_neg {a b : RI} (h : a.down = b.down) (h2 : a.down = true) : a.item.cmp b.item = - a.kit.cmp b.kit := by
  have h3 : b.down = true := by rw [← h]; exact h2
  simp [KItem.cmp, RI.item, h2, h3]
theorem item_cmp_pos {a b : RI} (h : a.down = b.down) (h2 : a.down = false) : a.item.cmp b.item = a.kit.cmp b.kit := by
  have h3 : b.down = false := by rw [← h]; exact h2
  simp [KItem.cmp, RI.item, h2, h3]

theorem ref_sign (p q : Bool) : CtrP Tryd.prog 19 [.bool p, .bool q] (fun v => v = .int .i64 (sgn p q)) := by
  refine CtrP.of fun I => ?_
  refine ctr_of Tryd.func19 rfl (n := 7) rfl rfl ?_
  intro G R
  simp only [argL]
  refine gc_seq ?_
  refine gc_region ?_
  refine gl_y rfl (y_assign rfl) ?_
  refine gl_nil ?_
  refine gq_then' ?_
  refine gc_seq ?_
  refine gc_seq ?_
  refine gc_region ?_
  refine gl_y rfl (y_move rfl) ?_
  refine gl_nil ?_
  refine gq_then' ?_
  refine gc_if rfl (fun h5 => ?_) (fun h5 => ?_)
  · have g5 := h5
    try (replace g5 := of_decide_eq_true g5)
    first
    | exact absurd h5 (by decide)
    | (exfalso; omega)
    | skip
      refine gc_seq ?_
      refine gc_region ?_
      refine gl_y rfl (y_assign rfl) ?_
      refine gl_nil ?_
      refine gq_then' ?_
      refine gc_ret ?_
      refine gq_pass_ret ?_
      refine gq_r1 rfl rfl perm_all ?_
      first
      | (subst h5; rfl)
      | (subst h5; subst h6; rfl)
  · have g5 := h5
    try (replace g5 := of_decide_eq_false g5)
    first
    | exact absurd h5 (by decide)
    | (exfalso; omega)
    | skip
      refine gc_skip ?_
      refine gq_then' ?_
      refine gc_seq ?_
      refine gc_seq ?_
      refine gc_region ?_
      refine gl_y rfl (y_move rfl) ?_
      refine gl_nil ?_
      refine gq_then' ?_
      refine gc_if rfl (fun h6 => ?_) (fun h6 => ?_)
      · have g6 := h6
        try (replace g6 := of_decide_eq_true g6)
        first
        | exact absurd h6 (by decide)
        | (exfalso; omega)
        | skip
          refine gc_seq ?_
          refine gc_region ?_
          refine gl_y rfl (y_assign rfl) ?_
          refine gl_nil ?_
          refine gq_then' ?_
          refine gc_ret ?_
          refine gq_pass_ret ?_
          refine gq_r1 rfl rfl perm_all ?_
          first
          | (subst h5; rfl)
          | (subst h5; subst h6; rfl)
      · have g6 := h6
        try (replace g6 := of_decide_eq_false g6)
        first
        | exact absurd h6 (by decide)
        | (exfalso; omega)
        | skip
          refine gc_skip ?_
          refine gq_then' ?_
          refine gc_seq ?_
          refine gc_region ?_
          refine gl_y rfl (y_assign rfl) ?_
          refine gl_nil ?_
          refine gq_then' ?_
          refine gc_ret ?_
          refine gq_r1 rfl rfl perm_all ?_
          first
          | (subst h5; rfl)
          | (subst h5; subst h6; rfl)
theorem ref_compare (a b : RI) (ha : a.ok) (hb : b.ok) : CtrP Tryd.prog 18 [.agg a.cells.toArray, .agg b.cells.toArray] (fun v => v = .int .i64 (a.item.cmp b.item)) := by
  obtain ⟨ka, _⟩ := ha
  obtain ⟨kb, _⟩ := hb
  refine CtrP.of fun I => ?_
  refine ctr_of Tryd.func18 rfl (n := 80) rfl rfl ?_
  intro G R
  simp only [argL]
  refine gc_seq ?_
  refine gc_region ?_
  refine gl_ef (ef_box rfl (l := [_, _, _, _, _]) rfl rfl) ?_
  rintro _ _ _ ⟨b2, rfl, rfl, rfl⟩
  refine gl_ef (ef_box rfl (l := [_, _, _, _, _]) rfl rfl) ?_
  rintro _ _ _ ⟨b3, rfl, rfl, rfl⟩
  refine gl_y rfl (y_assign rfl) ?_
  refine gl_nil ?_
  refine gq_then' ?_
  refine gc_seq ?_
  refine gc_seq ?_
  refine gc_region ?_
  refine gl_y rfl (y_faddr fo_24_4 rfl) ?_
  refine gl_y rfl (y_load ag_4 rfl (blk_own (i := 0) rfl) rfl) ?_
  refine gl_y rfl (y_faddr fo_24_4 rfl) ?_
  refine gl_y rfl (y_load ag_4 rfl (blk_own (i := 1) rfl) rfl) ?_
  refine gl_y rfl (y_bneq Tryd.underlying4 rfl rfl) ?_
  refine gl_nil ?_
  refine gq_then' ?_
  refine gc_if rfl (fun h10 => ?_) (fun h10 => ?_)
  · have g10 := h10
    try (replace g10 := of_decide_eq_true g10)
    first
    | exact absurd h10 (by decide)
    | (exfalso; omega)
    | skip
      refine gc_seq ?_
      refine gc_region ?_
      refine gl_y rfl (y_faddr fo_24_4 rfl) ?_
      refine gl_y rfl (y_load ag_4 rfl (blk_own (i := 1) rfl) rfl) ?_
      refine gl_y rfl (y_faddr fo_24_4 rfl) ?_
      refine gl_y rfl (y_load ag_4 rfl (blk_own (i := 0) rfl) rfl) ?_
      refine gl_ef (ef_callp en_19 rfl (ref_sign _ _) rfl) ?_
      rintro _ _ _ ⟨v15, rfl, rfl, rfl, rfl⟩
      refine gl_y rfl (y_assign rfl) ?_
      refine gl_nil ?_
      refine gq_then' ?_
      refine gc_ret ?_
      refine gq_pass_ret ?_
      refine gq_r1 rfl rfl perm_all ?_
      exact congrArg (Value.int .i64) (item_cmp_down (by simpa using h10)).symm
  · have g10 := h10
    try (replace g10 := of_decide_eq_false g10)
    first
    | exact absurd h10 (by decide)
    | (exfalso; omega)
    | skip
      refine gc_skip ?_
      refine gq_then' ?_
      refine gc_seq ?_
      refine gc_region ?_
      refine gl_y rfl (y_faddr fo_24_0 rfl) ?_
      refine gl_y rfl (y_load ag_5 rfl (blk_own (i := 0) rfl) rfl) ?_
      refine gl_y rfl (y_rem rfl rfl (by omega) (rem6 _ ka)) ?_
      refine gl_y rfl (y_faddr fo_24_0 rfl) ?_
      refine gl_y rfl (y_load ag_5 rfl (blk_own (i := 1) rfl) rfl) ?_
      refine gl_y rfl (y_rem rfl rfl (by omega) (rem6 _ kb)) ?_
      refine gl_y rfl (y_lss rfl rfl) ?_
      refine gl_y rfl (y_faddr fo_24_0 rfl) ?_
      refine gl_y rfl (y_load ag_5 rfl (blk_own (i := 0) rfl) rfl) ?_
      refine gl_y rfl (y_rem rfl rfl (by omega) (rem6 _ ka)) ?_
      refine gl_y rfl (y_faddr fo_24_0 rfl) ?_
      refine gl_y rfl (y_load ag_5 rfl (blk_own (i := 1) rfl) rfl) ?_
      refine gl_y rfl (y_rem rfl rfl (by omega) (rem6 _ kb)) ?_
      refine gl_y rfl (y_gtr rfl rfl) ?_
      refine gl_ef (ef_callp en_19 rfl (ref_sign _ _) rfl) ?_
      rintro _ _ _ ⟨v30, rfl, rfl, rfl, rfl⟩
      refine gl_y rfl (y_assign rfl) ?_
      refine gl_nil ?_
      refine gq_then' ?_
      refine gc_seq ?_
      refine gc_seq ?_
      refine gc_region ?_
      refine gl_y rfl (y_move rfl) ?_
      refine gl_y rfl (y_eql rfl rfl) ?_
      refine gl_nil ?_
      refine gq_then' ?_
      refine gc_if rfl (fun h32 => ?_) (fun h32 => ?_)
      · have g32 := h32
        try (replace g32 := of_decide_eq_true g32)
        first
        | exact absurd h32 (by decide)
        | (exfalso; omega)
        | skip
          refine gc_seq ?_
          refine gc_region ?_
          refine gl_y rfl (y_faddr fo_24_0 rfl) ?_
          refine gl_y rfl (y_load ag_5 rfl (blk_own (i := 0) rfl) rfl) ?_
          refine gl_y rfl (y_rem rfl rfl (by omega) (rem6 _ ka)) ?_
          refine gl_nil ?_
          refine gq_then' ?_
          refine gc_block ?_
          refine gc_seq ?_
          refine gc_region ?_
          refine gl_y rfl (y_eql rfl rfl) ?_
          refine gl_y rfl (y_assign rfl) ?_
          refine gl_nil ?_
          refine gq_then' ?_
          refine gc_if rfl (fun h36 => ?_) (fun h36 => ?_)
          · have g36 := h36
            try (replace g36 := of_decide_eq_true g36)
            first
            | exact absurd h36 (by decide)
            | (exfalso; omega)
            | skip
              refine gc_region ?_
              refine gl_y rfl (y_faddr fo_24_1 rfl) ?_
              refine gl_y rfl (y_load ag_2 rfl (blk_own (i := 0) rfl) rfl) ?_
              refine gl_y rfl (y_faddr fo_24_1 rfl) ?_
              refine gl_y rfl (y_load ag_2 rfl (blk_own (i := 1) rfl) rfl) ?_
              refine gl_y rfl (y_lss rfl rfl) ?_
              refine gl_y rfl (y_faddr fo_24_1 rfl) ?_
              refine gl_y rfl (y_load ag_2 rfl (blk_own (i := 0) rfl) rfl) ?_
              refine gl_y rfl (y_faddr fo_24_1 rfl) ?_
              refine gl_y rfl (y_load ag_2 rfl (blk_own (i := 1) rfl) rfl) ?_
              refine gl_y rfl (y_gtr rfl rfl) ?_
              refine gl_ef (ef_callp en_19 rfl (ref_sign _ _) rfl) ?_
              rintro _ _ _ ⟨v48, rfl, rfl, rfl, rfl⟩
              refine gl_y rfl (y_assign rfl) ?_
              refine gl_nil ?_
              refine gq_in_normal ?_
              refine gq_then' ?_
              refine gc_seq ?_
              refine gc_seq ?_
              refine gc_region ?_
              refine gl_y rfl (y_faddr fo_24_4 rfl) ?_
              refine gl_y rfl (y_load ag_4 rfl (blk_own (i := 0) rfl) rfl) ?_
              refine gl_nil ?_
              refine gq_then' ?_
              refine gc_if rfl (fun h76 => ?_) (fun h76 => ?_)
              · have g76 := h76
                try (replace g76 := of_decide_eq_true g76)
                first
                | exact absurd h76 (by decide)
                | (exfalso; omega)
                | skip
                  refine gc_seq ?_
                  refine gc_region ?_
                  refine gl_y rfl (y_move rfl) ?_
                  refine gl_y rfl (y_neg rfl (neg_sgn _ _)) ?_
                  refine gl_y rfl (y_assign rfl) ?_
                  refine gl_nil ?_
                  refine gq_then' ?_
                  refine gc_ret ?_
                  refine gq_pass_ret ?_
                  refine gq_r1 rfl rfl perm_all ?_
                  have hd : a.down = b.down := by simpa using h10
                  have e : a.kit.cmp b.kit = sgn (decide (a.int < b.int)) (decide (b.int < a.int)) := kit_int (g32 : kindCmp a b = 0) g36
                  first
                  | (rw [item_cmp_neg hd h76, e])
                  | (rw [item_cmp_pos hd h76, e])
              · have g76 := h76
                try (replace g76 := of_decide_eq_false g76)
                first
                | exact absurd h76 (by decide)
                | (exfalso; omega)
                | skip
                  refine gc_skip ?_
                  refine gq_then' ?_
                  refine gc_seq ?_
                  refine gc_region ?_
                  refine gl_y rfl (y_move rfl) ?_
                  refine gl_y rfl (y_assign rfl) ?_
                  refine gl_nil ?_
                  refine gq_then' ?_
                  refine gc_ret ?_
                  refine gq_r1 rfl rfl perm_all ?_
                  have hd : a.down = b.down := by simpa using h10
                  have e : a.kit.cmp b.kit = sgn (decide (a.int < b.int)) (decide (b.int < a.int)) := kit_int (g32 : kindCmp a b = 0) g36
                  first
                  | (rw [item_cmp_neg hd h76, e])
                  | (rw [item_cmp_pos hd h76, e])
          · have g36 := h36
            try (replace g36 := of_decide_eq_false g36)
            first
            | exact absurd h36 (by decide)
            | (exfalso; omega)
            | skip
              refine gc_seq ?_
              refine gc_region ?_
              refine gl_y rfl (y_eql rfl rfl) ?_
              refine gl_y rfl (y_assign rfl) ?_
              refine gl_nil ?_
              refine gq_then' ?_
              refine gc_if rfl (fun h49 => ?_) (fun h49 => ?_)
              · have g49 := h49
                try (replace g49 := of_decide_eq_true g49)
                first
                | exact absurd h49 (by decide)
                | (exfalso; omega)
                | skip
                  refine gc_region ?_
                  refine gl_y rfl (y_faddr fo_24_2 rfl) ?_
                  refine gl_y rfl (y_load ag_22 rfl (blk_own (i := 0) rfl) rfl) ?_
                  refine gl_y rfl (y_faddr fo_24_2 rfl) ?_
                  refine gl_y rfl (y_load ag_22 rfl (blk_own (i := 1) rfl) rfl) ?_
                  refine gl_y rfl (y_lss rfl rfl) ?_
                  refine gl_y rfl (y_faddr fo_24_2 rfl) ?_
                  refine gl_y rfl (y_load ag_22 rfl (blk_own (i := 0) rfl) rfl) ?_
                  refine gl_y rfl (y_faddr fo_24_2 rfl) ?_
                  refine gl_y rfl (y_load ag_22 rfl (blk_own (i := 1) rfl) rfl) ?_
                  refine gl_y rfl (y_gtr rfl rfl) ?_
                  refine gl_ef (ef_callp en_19 rfl (ref_sign _ _) rfl) ?_
                  rintro _ _ _ ⟨v61, rfl, rfl, rfl, rfl⟩
                  refine gl_y rfl (y_assign rfl) ?_
                  refine gl_nil ?_
                  refine gq_in_normal ?_
                  refine gq_then' ?_
                  refine gc_seq ?_
                  refine gc_seq ?_
                  refine gc_region ?_
                  refine gl_y rfl (y_faddr fo_24_4 rfl) ?_
                  refine gl_y rfl (y_load ag_4 rfl (blk_own (i := 0) rfl) rfl) ?_
                  refine gl_nil ?_
                  refine gq_then' ?_
                  refine gc_if rfl (fun h76 => ?_) (fun h76 => ?_)
                  · have g76 := h76
                    try (replace g76 := of_decide_eq_true g76)
                    first
                    | exact absurd h76 (by decide)
                    | (exfalso; omega)
                    | skip
                      refine gc_seq ?_
                      refine gc_region ?_
                      refine gl_y rfl (y_move rfl) ?_
                      refine gl_y rfl (y_neg rfl (neg_sgn _ _)) ?_
                      refine gl_y rfl (y_assign rfl) ?_
                      refine gl_nil ?_
                      refine gq_then' ?_
                      refine gc_ret ?_
                      refine gq_pass_ret ?_
                      refine gq_r1 rfl rfl perm_all ?_
                      have hd : a.down = b.down := by simpa using h10
                      have e : a.kit.cmp b.kit = sgn (decide ((a.uint : Int) < (b.uint : Int))) (decide ((b.uint : Int) < (a.uint : Int))) := kit_uint (g32 : kindCmp a b = 0) g49
                      first
                      | (rw [item_cmp_neg hd h76, e])
                      | (rw [item_cmp_pos hd h76, e])
                  · have g76 := h76
                    try (replace g76 := of_decide_eq_false g76)
                    first
                    | exact absurd h76 (by decide)
                    | (exfalso; omega)
                    | skip
                      refine gc_skip ?_
                      refine gq_then' ?_
                      refine gc_seq ?_
                      refine gc_region ?_
                      refine gl_y rfl (y_move rfl) ?_
                      refine gl_y rfl (y_assign rfl) ?_
                      refine gl_nil ?_
                      refine gq_then' ?_
                      refine gc_ret ?_
                      refine gq_r1 rfl rfl perm_all ?_
                      have hd : a.down = b.down := by simpa using h10
                      have e : a.kit.cmp b.kit = sgn (decide ((a.uint : Int) < (b.uint : Int))) (decide ((b.uint : Int) < (a.uint : Int))) := kit_uint (g32 : kindCmp a b = 0) g49
                      first
                      | (rw [item_cmp_neg hd h76, e])
                      | (rw [item_cmp_pos hd h76, e])
              · have g49 := h49
                try (replace g49 := of_decide_eq_false g49)
                first
                | exact absurd h49 (by decide)
                | (exfalso; omega)
                | skip
                  refine gc_seq ?_
                  refine gc_region ?_
                  refine gl_y rfl (y_eql rfl rfl) ?_
                  refine gl_y rfl (y_assign rfl) ?_
                  refine gl_nil ?_
                  refine gq_then' ?_
                  refine gc_if rfl (fun h62 => ?_) (fun h62 => ?_)
                  · have g62 := h62
                    try (replace g62 := of_decide_eq_true g62)
                    first
                    | exact absurd h62 (by decide)
                    | (exfalso; omega)
                    | skip
                      refine gc_region ?_
                      refine gl_y rfl (y_faddr fo_24_3 rfl) ?_
                      refine gl_y rfl (y_load ag_9 rfl (blk_own (i := 0) rfl) rfl) ?_
                      refine gl_y rfl (y_faddr fo_24_3 rfl) ?_
                      refine gl_y rfl (y_load ag_9 rfl (blk_own (i := 1) rfl) rfl) ?_
                      refine gl_y rfl (y_slss rfl rfl) ?_
                      refine gl_y rfl (y_faddr fo_24_3 rfl) ?_
                      refine gl_y rfl (y_load ag_9 rfl (blk_own (i := 0) rfl) rfl) ?_
                      refine gl_y rfl (y_faddr fo_24_3 rfl) ?_
                      refine gl_y rfl (y_load ag_9 rfl (blk_own (i := 1) rfl) rfl) ?_
                      refine gl_y rfl (y_sgtr rfl rfl) ?_
                      refine gl_ef (ef_callp en_19 rfl (ref_sign _ _) rfl) ?_
                      rintro _ _ _ ⟨v74, rfl, rfl, rfl, rfl⟩
                      refine gl_y rfl (y_assign rfl) ?_
                      refine gl_nil ?_
                      refine gq_in_normal ?_
                      refine gq_then' ?_
                      refine gc_seq ?_
                      refine gc_seq ?_
                      refine gc_region ?_
                      refine gl_y rfl (y_faddr fo_24_4 rfl) ?_
                      refine gl_y rfl (y_load ag_4 rfl (blk_own (i := 0) rfl) rfl) ?_
                      refine gl_nil ?_
                      refine gq_then' ?_
                      refine gc_if rfl (fun h76 => ?_) (fun h76 => ?_)
                      · have g76 := h76
                        try (replace g76 := of_decide_eq_true g76)
                        first
                        | exact absurd h76 (by decide)
                        | (exfalso; omega)
                        | skip
                          refine gc_seq ?_
                          refine gc_region ?_
                          refine gl_y rfl (y_move rfl) ?_
                          refine gl_y rfl (y_neg rfl (neg_sgn _ _)) ?_
                          refine gl_y rfl (y_assign rfl) ?_
                          refine gl_nil ?_
                          refine gq_then' ?_
                          refine gc_ret ?_
                          refine gq_pass_ret ?_
                          refine gq_r1 rfl rfl perm_all ?_
                          have hd : a.down = b.down := by simpa using h10
                          have e : a.kit.cmp b.kit = sgn (Op.bytesLess a.text b.text) (Op.bytesLess b.text a.text) := kit_text (g32 : kindCmp a b = 0) g62
                          first
                          | (rw [item_cmp_neg hd h76, e])
                          | (rw [item_cmp_pos hd h76, e])
                      · have g76 := h76
                        try (replace g76 := of_decide_eq_false g76)
                        first
                        | exact absurd h76 (by decide)
                        | (exfalso; omega)
                        | skip
                          refine gc_skip ?_
                          refine gq_then' ?_
                          refine gc_seq ?_
                          refine gc_region ?_
                          refine gl_y rfl (y_move rfl) ?_
                          refine gl_y rfl (y_assign rfl) ?_
                          refine gl_nil ?_
                          refine gq_then' ?_
                          refine gc_ret ?_
                          refine gq_r1 rfl rfl perm_all ?_
                          have hd : a.down = b.down := by simpa using h10
                          have e : a.kit.cmp b.kit = sgn (Op.bytesLess a.text b.text) (Op.bytesLess b.text a.text) := kit_text (g32 : kindCmp a b = 0) g62
                          first
                          | (rw [item_cmp_neg hd h76, e])
                          | (rw [item_cmp_pos hd h76, e])
                  · have g62 := h62
                    try (replace g62 := of_decide_eq_false g62)
                    first
                    | exact absurd h62 (by decide)
                    | (exfalso; omega)
                    | skip
                      refine gc_skip ?_
                      refine gq_in_normal ?_
                      refine gq_then' ?_
                      refine gc_seq ?_
                      refine gc_seq ?_
                      refine gc_region ?_
                      refine gl_y rfl (y_faddr fo_24_4 rfl) ?_
                      refine gl_y rfl (y_load ag_4 rfl (blk_own (i := 0) rfl) rfl) ?_
                      refine gl_nil ?_
                      refine gq_then' ?_
                      refine gc_if rfl (fun h76 => ?_) (fun h76 => ?_)
                      · have g76 := h76
                        try (replace g76 := of_decide_eq_true g76)
                        first
                        | exact absurd h76 (by decide)
                        | (exfalso; omega)
                        | skip
                          refine gc_seq ?_
                          refine gc_region ?_
                          refine gl_y rfl (y_move rfl) ?_
                          refine gl_y rfl (y_neg rfl (neg_sgn _ _)) ?_
                          refine gl_y rfl (y_assign rfl) ?_
                          refine gl_nil ?_
                          refine gq_then' ?_
                          refine gc_ret ?_
                          refine gq_pass_ret ?_
                          refine gq_r1 rfl rfl perm_all ?_
                          have hd : a.down = b.down := by simpa using h10
                          have e : a.kit.cmp b.kit = sgn _ _ := kit_zero (g32 : kindCmp a b = 0) (by omega) (by omega) (by omega)
                          first
                          | (rw [item_cmp_neg hd h76, e])
                          | (rw [item_cmp_pos hd h76, e])
                      · have g76 := h76
                        try (replace g76 := of_decide_eq_false g76)
                        first
                        | exact absurd h76 (by decide)
                        | (exfalso; omega)
                        | skip
                          refine gc_skip ?_
                          refine gq_then' ?_
                          refine gc_seq ?_
                          refine gc_region ?_
                          refine gl_y rfl (y_move rfl) ?_
                          refine gl_y rfl (y_assign rfl) ?_
                          refine gl_nil ?_
                          refine gq_then' ?_
                          refine gc_ret ?_
                          refine gq_r1 rfl rfl perm_all ?_
                          have hd : a.down = b.down := by simpa using h10
                          have e : a.kit.cmp b.kit = sgn _ _ := kit_zero (g32 : kindCmp a b = 0) (by omega) (by omega) (by omega)
                          first
                          | (rw [item_cmp_neg hd h76, e])
                          | (rw [item_cmp_pos hd h76, e])
      · have g32 := h32
        try (replace g32 := of_decide_eq_false g32)
        first
        | exact absurd h32 (by decide)
        | (exfalso; omega)
        | skip
          refine gc_skip ?_
          refine gq_then' ?_
          refine gc_seq ?_
          refine gc_seq ?_
          refine gc_region ?_
          refine gl_y rfl (y_faddr fo_24_4 rfl) ?_
          refine gl_y rfl (y_load ag_4 rfl (blk_own (i := 0) rfl) rfl) ?_
          refine gl_nil ?_
          refine gq_then' ?_
          refine gc_if rfl (fun h76 => ?_) (fun h76 => ?_)
          · have g76 := h76
            try (replace g76 := of_decide_eq_true g76)
            first
            | exact absurd h76 (by decide)
            | (exfalso; omega)
            | skip
              refine gc_seq ?_
              refine gc_region ?_
              refine gl_y rfl (y_move rfl) ?_
              refine gl_y rfl (y_neg rfl (neg_sgn _ _)) ?_
              refine gl_y rfl (y_assign rfl) ?_
              refine gl_nil ?_
              refine gq_then' ?_
              refine gc_ret ?_
              refine gq_pass_ret ?_
              refine gq_r1 rfl rfl perm_all ?_
              have hd : a.down = b.down := by simpa using h10
              have e : a.kit.cmp b.kit = sgn _ _ := kit_ne g32
              first
              | (rw [item_cmp_neg hd h76, e])
              | (rw [item_cmp_pos hd h76, e])
          · have g76 := h76
            try (replace g76 := of_decide_eq_false g76)
            first
            | exact absurd h76 (by decide)
            | (exfalso; omega)
            | skip
              refine gc_skip ?_
              refine gq_then' ?_
              refine gc_seq ?_
              refine gc_region ?_
              refine gl_y rfl (y_move rfl) ?_
              refine gl_y rfl (y_assign rfl) ?_
              refine gl_nil ?_
              refine gq_then' ?_
              refine gc_ret ?_
              refine gq_r1 rfl rfl perm_all ?_
              have hd : a.down = b.down := by simpa using h10
              have e : a.kit.cmp b.kit = sgn _ _ := kit_ne g32
              first
              | (rw [item_cmp_neg hd h76, e])
              | (rw [item_cmp_pos hd h76, e])

theorem cmpAll_nil {l m : List KItem} (h : l = [] ∨ m = []) : cmpAll l m = sgn (decide (l.length < m.length)) (decide (l.length > m.length)) := by
  rcases h with rfl | rfl
  · cases m <;> rfl
  · cases l <;> rfl
structure CmpAt (a b : List RI) (i : Nat) : Prop where
  la : i ≤ a.length
  lb : i ≤ b.length
  run : cmpAll (a.map RI.item) (b.map RI.item) = cmpAll ((a.drop i).map RI.item) ((b.drop i).map RI.item)
theorem CmpAt.zero (a b : List RI) : CmpAt a b 0 := ⟨Nat.zero_le _, Nat.zero_le _, by simp⟩
theorem CmpAt.step {a b : List RI} {i : Nat} (h : CmpAt a b i) {x y : RI} (hx : a[i]? = some x) (hy : b[i]? = some y) :
    cmpAll (a.map RI.item) (b.map RI.item) = if x.item.cmp y.item ≠ 0 then x.item.cmp y.item else cmpAll ((a.drop (i + 1)).map RI.item) ((b.drop (i + 1)).map RI.item) := by
  obtain ⟨h1, rfl⟩ := List.getElem?_eq_some_iff.1 hx
  obtain ⟨h2, rfl⟩ := List.getElem?_eq_some_iff.1 hy
  rw [h.run, List.drop_eq_getElem_cons h1, List.drop_eq_getElem_cons h2]
  rfl
theorem CmpAt.next {a b : List RI} {i : Nat} (h : CmpAt a b i) {x y : RI} (hx : a[i]? = some x) (hy : b[i]? = some y) (h0 : ¬ x.item.cmp y.item ≠ 0) : CmpAt a b (i + 1) :=
  ⟨(List.getElem?_eq_some_iff.1 hx).1, (List.getElem?_eq_some_iff.1 hy).1, by rw [h.step hx hy, if_neg h0]⟩
theorem CmpAt.fin {a b : List RI} {i : Nat} (h : CmpAt a b i) (he : a.length ≤ i ∨ b.length ≤ i) : cmpAll (a.map RI.item) (b.map RI.item) = sgn (decide ((a.length : Int) < (b.length : Int))) (decide ((b.length : Int) < (a.length : Int))) := by
  have h1 := h.la
  have h2 := h.lb
  rw [h.run, cmpAll_nil (by rcases he with he | he <;> simp <;> omega)]
  congr 1
  · apply decide_eq_decide.2; simp; omega
  · apply decide_eq_decide.2; simp; omega

theorem ref_CompareAll (A B : Option Addr) (ca cb : Nat) (a b : List RI) (hla : a.length ≤ 12) (hlb : b.length ≤ 12) (hoa : ∀ r ∈ a, r.ok) (hob : ∀ r ∈ b, r.ok) : CtrQ Tryd.prog 12 [.slice A a.length ca, .slice B b.length cb] (fun I => Rsl I 5 A a.length ((a.map RI.cells).flatten) ∧ Rsl I 5 B b.length ((b.map RI.cells).flatten)) (fun v => v = .int .i64 (cmpAll (a.map RI.item) (b.map RI.item))) := by
  refine CtrQ.of fun I hK => ?_
  obtain ⟨hRa, hRb⟩ := hK
  refine ctr_of Tryd.func12 rfl (n := 42) rfl rfl ?_
  intro G R
  simp only [argL]
  refine gc_seq ?_
  refine gc_region ?_
  refine gl_y rfl (y_assign rfl) ?_
  refine gl_nil ?_
  refine gq_then' ?_
  refine gc_seq ?_
  refine gc_seq ?_
  refine gc_region ?_
  refine gl_y rfl (y_assign rfl) ?_
  refine gl_nil ?_
  refine gq_then' ?_
  refine gc_block ?_
  refine gc_loopW (α := Nat) [7, 8, 9, 10, 11, 12, 13, 14, 15, 16, 19, 20, 21, 22, 23, 24, 25, 26, 27, 6, 28, 29, 30, 4, 17, 18, 5] (fun (i : Nat) => [(5, .int .i64 (i : Int))]) (fun (i : Nat) => []) (fun (i : Nat) => CmpAt a b i) (fun (i : Nat) => a.length - i) 0 ?_ perm_all ?_ ?_
  · exact CmpAt.zero a b
  · exact ⟨rfl, trivial⟩
  · rintro i hC
    have hC1 := hC.la
    have hC2 := hC.lb
    refine gc_seq ?_
    refine gc_seq ?_
    refine gc_region ?_
    refine gl_y rfl (y_move rfl) ?_
    refine gl_y rfl (y_move rfl) ?_
    refine gl_y rfl (y_len Tryd.underlying27 rfl) ?_
    refine gl_y rfl (y_lss rfl rfl) ?_
    refine gl_y rfl (y_move rfl) ?_
    refine gl_if (t := 11) rfl (fun h11 => ?_) (fun h11 => ?_)
    · have g11 := h11
      try (replace g11 := of_decide_eq_true g11)
      first
      | exact absurd h11 (by decide)
      | (exfalso; omega)
      | skip
        refine gl_want rfl rfl rfl h11 ?_
        refine gl_y rfl (y_move rfl) ?_
        refine gl_want rfl rfl rfl h11 ?_
        refine gl_y rfl (y_move rfl) ?_
        refine gl_want rfl rfl rfl h11 ?_
        refine gl_y rfl (y_len Tryd.underlying27 rfl) ?_
        refine gl_want rfl rfl rfl h11 ?_
        refine gl_y rfl (y_lss rfl rfl) ?_
        refine gl_y rfl (y_pick_t rfl h11 rfl) ?_
        refine gl_nil ?_
        refine gq_then' ?_
        refine gc_if rfl (fun h16 => ?_) (fun h16 => ?_)
        · have g16 := h16
          try (replace g16 := of_decide_eq_true g16)
          first
          | exact absurd h16 (by decide)
          | (exfalso; omega)
          | skip
            refine gc_skip ?_
            refine gq_then' ?_
            refine gc_seq ?_
            refine gc_block ?_
            refine gc_seq ?_
            obtain ⟨x, hx⟩ : ∃ x, a[i]? = some x := ⟨_, List.getElem?_eq_getElem (by omega)⟩
            have hxm := List.mem_of_getElem? hx
            obtain ⟨y, hy⟩ : ∃ y, b[i]? = some y := ⟨_, List.getElem?_eq_getElem (by omega)⟩
            have hym := List.mem_of_getElem? hy
            obtain ⟨b1, o1, t1, fz1, cs1, hA1, hI1, hc1⟩ := hRa.pos (by omega)
            obtain ⟨b2, o2, t2, fz2, cs2, hA2, hI2, hc2⟩ := hRb.pos (by omega)
            refine gc_region_draw (N := 10) [(b1, cs1), (b2, cs2)] rfl follows_mixed (by repeat (first | exact panicOk_body | refine panicOk_then ?_ | refine panicOk_in ?_)) (by kernel_rfl) ?_ ?_
            · exact ⟨blk_known hI1, blk_known hI2, trivial⟩
            · skip
              refine ga_y 0 rfl (by kernel_rfl) (by kernel_rfl) rfl (y_move rfl) ?_
              refine ga_y 1 rfl (by kernel_rfl) (by kernel_rfl) rfl (y_move rfl) ?_
              refine ga_y 2 rfl (by kernel_rfl) (by kernel_rfl) rfl (y_iaddrA Tryd.underlying27 sz_24 rfl hA1 rfl (by omega) (by omega)) ?_
              refine ga_y 3 rfl (by kernel_rfl) (by kernel_rfl) rfl (y_loadA ag_24 sz_24 rfl (blk_S (k := 0) rfl) (vs := x.cells) rfl (ri_block hc1 i x hx)) ?_
              refine ga_y 4 rfl (by kernel_rfl) (by kernel_rfl) rfl (y_move rfl) ?_
              refine ga_y 5 rfl (by kernel_rfl) (by kernel_rfl) rfl (y_move rfl) ?_
              refine ga_y 6 rfl (by kernel_rfl) (by kernel_rfl) rfl (y_iaddrA Tryd.underlying27 sz_24 rfl hA2 rfl (by omega) (by omega)) ?_
              refine ga_y 7 rfl (by kernel_rfl) (by kernel_rfl) rfl (y_loadA ag_24 sz_24 rfl (blk_S (k := 1) rfl) (vs := y.cells) rfl (ri_block hc2 i y hy)) ?_
              refine ga_all1 (i := 8) (by kernel_rfl) ?_
              · skip
                refine gb_ef rfl (ef_callp en_18 rfl (ref_compare x y (hoa x hxm) (hob y hym)) rfl) ?_
                rintro _ _ _ ⟨v27, rfl, rfl, rfl, rfl⟩
                refine ⟨sat_S ⟨blk_known hI1, blk_known hI2, trivial⟩, ?_⟩
                refine ga_y 9 rfl (by kernel_rfl) (by kernel_rfl) rfl (y_assign rfl) ?_
                refine ga_done (by kernel_rfl) ?_
                refine gq_then' ?_
                refine gc_seq ?_
                refine gc_region ?_
                refine gl_y rfl (y_move rfl) ?_
                refine gl_y rfl (y_neq rfl rfl) ?_
                refine gl_nil ?_
                refine gq_then' ?_
                refine gc_if rfl (fun h29 => ?_) (fun h29 => ?_)
                · have g29 := h29
                  try (replace g29 := of_decide_eq_true g29)
                  first
                  | exact absurd h29 (by decide)
                  | (exfalso; omega)
                  | skip
                    refine gc_seq ?_
                    refine gc_region ?_
                    refine gl_y rfl (y_move rfl) ?_
                    refine gl_y rfl (y_assign rfl) ?_
                    refine gl_nil ?_
                    refine gq_then' ?_
                    refine gc_ret ?_
                    refine gq_in_ret ?_
                    refine gq_pass_ret ?_
                    refine gq_pass_ret ?_
                    refine gq_in_ret ?_
                    refine gq_pass_ret ?_
                    refine gq_r1 rfl rfl perm_all ?_
                    rw [hC.step hx hy, if_pos g29]
                · have g29 := h29
                  try (replace g29 := of_decide_eq_false g29)
                  first
                  | exact absurd h29 (by decide)
                  | (exfalso; omega)
                  | skip
                    refine gc_skip ?_
                    refine gq_in_normal ?_
                    refine gq_then' ?_
                    refine gc_region ?_
                    refine gl_y rfl (y_move rfl) ?_
                    first | refine gl_y rfl (y_add rfl rfl (wr_i64 (by omega) (by omega))) ?_ | refine gl_y rfl (y_add rfl rfl rfl) ?_
                    refine gl_y rfl (y_assign rfl) ?_
                    refine gl_nil ?_
                    refine gq_roundW (i + 1) ?_ ?_ perm_all rfl (by repeat (first | exact Ext.refl | refine Ext.cons rfl ?_)) ?_
                    · exact hC.next hx hy g29
                    · (show a.length - (i + 1) < a.length - i); omega
                    · exact ⟨rfl, trivial⟩
        · have g16 := h16
          try (replace g16 := of_decide_eq_false g16)
          first
          | exact absurd h16 (by decide)
          | (exfalso; omega)
          | skip
            refine gc_exit ?_
            refine gq_pass_exit ?_
            refine gq_pass_exit ?_
            refine gq_in_exit ?_
            refine gq_then' ?_
            refine gc_seq ?_
            refine gc_region ?_
            refine gl_y rfl (y_move rfl) ?_
            refine gl_y rfl (y_len Tryd.underlying27 rfl) ?_
            refine gl_y rfl (y_move rfl) ?_
            refine gl_y rfl (y_len Tryd.underlying27 rfl) ?_
            refine gl_y rfl (y_lss rfl rfl) ?_
            refine gl_y rfl (y_move rfl) ?_
            refine gl_y rfl (y_len Tryd.underlying27 rfl) ?_
            refine gl_y rfl (y_move rfl) ?_
            refine gl_y rfl (y_len Tryd.underlying27 rfl) ?_
            refine gl_y rfl (y_gtr rfl rfl) ?_
            refine gl_ef (ef_callp en_19 rfl (ref_sign _ _) rfl) ?_
            rintro _ _ _ ⟨v41, rfl, rfl, rfl, rfl⟩
            refine gl_y rfl (y_assign rfl) ?_
            refine gl_nil ?_
            refine gq_then' ?_
            refine gc_ret ?_
            refine gq_r1 rfl rfl perm_all ?_
            exact congrArg (Value.int .i64) (hC.fin (by omega)).symm
    · have g11 := h11
      try (replace g11 := of_decide_eq_false g11)
      first
      | exact absurd h11 (by decide)
      | (exfalso; omega)
      | skip
        refine gl_skip rfl rfl rfl h11 rfl ?_
        refine gl_skip rfl rfl rfl h11 rfl ?_
        refine gl_skip rfl rfl rfl h11 rfl ?_
        refine gl_skip rfl rfl rfl h11 rfl ?_
        refine gl_y rfl (y_pick_f rfl h11 rfl) ?_
        refine gl_nil ?_
        refine gq_then' ?_
        refine gc_f rfl rfl ?_
        refine gc_exit ?_
        refine gq_pass_exit ?_
        refine gq_pass_exit ?_
        refine gq_in_exit ?_
        refine gq_then' ?_
        refine gc_seq ?_
        refine gc_region ?_
        refine gl_y rfl (y_move rfl) ?_
        refine gl_y rfl (y_len Tryd.underlying27 rfl) ?_
        refine gl_y rfl (y_move rfl) ?_
        refine gl_y rfl (y_len Tryd.underlying27 rfl) ?_
        refine gl_y rfl (y_lss rfl rfl) ?_
        refine gl_y rfl (y_move rfl) ?_
        refine gl_y rfl (y_len Tryd.underlying27 rfl) ?_
        refine gl_y rfl (y_move rfl) ?_
        refine gl_y rfl (y_len Tryd.underlying27 rfl) ?_
        refine gl_y rfl (y_gtr rfl rfl) ?_
        refine gl_ef (ef_callp en_19 rfl (ref_sign _ _) rfl) ?_
        rintro _ _ _ ⟨v41, rfl, rfl, rfl, rfl⟩
        refine gl_y rfl (y_assign rfl) ?_
        refine gl_nil ?_
        refine gq_then' ?_
        refine gc_ret ?_
        refine gq_r1 rfl rfl perm_all ?_
        exact congrArg (Value.int .i64) (hC.fin (by omega)).symm
theorem keys_Compare (A B : Option Addr) (ca cb : Nat) (a b : List RI) (hla : a.length ≤ 12) (hlb : b.length ≤ 12) (hoa : ∀ r ∈ a, r.ok) (hob : ∀ r ∈ b, r.ok) (hta : ∀ r ∈ a, r.text.length ≤ 100) (htb : ∀ r ∈ b, r.text.length ≤ 100) : CtrQ Tryd.prog 13 [.slice A a.length ca, .slice B b.length cb] (fun I => KMax I ∧ Rsl I 1 A a.length (itemVals a) ∧ Rsl I 1 B b.length (itemVals b)) (fun v => v = .tuple #[.int .i64 (cmpAll (a.map RI.item) (b.map RI.item)), .int .i64 0]) := by
  refine CtrQ.of fun I hK => ?_
  obtain ⟨hK, hRa, hRb⟩ := hK
  refine ctr_of Tryd.func13 rfl (n := 29) rfl rfl ?_
  intro G R
  simp only [argL]
  refine gc_seq ?_
  refine gc_region ?_
  refine gl_y rfl (y_assign rfl) ?_
  refine gl_y rfl (y_assign rfl) ?_
  refine gl_nil ?_
  refine gq_then' ?_
  refine gc_seq ?_
  refine gc_region ?_
  refine gl_y rfl (y_move rfl) ?_
  refine gl_ef (ef_callq en_10 rfl (keys_EncodeI _ _ a (by first | omega | (simp only [List.length_append, List.length_cons, List.length_nil, List.length_take, List.length_drop, List.length_map, List.length_replicate, List.length_set, u8s_length, fx_length, fixed_length, turn_length]; omega)) hoa hta) perm_all (fun _ _ _ _ h => ⟨hK.le h, hRa.mono h⟩) rfl) ?_
  rintro _ _ _ ⟨v12, rfl, rfl, rfl, rfl⟩
  refine gl_y rfl (y_move rfl) ?_
  refine gl_y rfl (y_extract rfl rfl) ?_
  refine gl_y rfl (y_extract rfl rfl) ?_
  refine gl_y rfl (y_assign rfl) ?_
  refine gl_y rfl (y_assign rfl) ?_
  refine gl_nil ?_
  refine gq_then' ?_
  refine gc_seq ?_
  refine gc_region ?_
  refine gl_y rfl (y_move rfl) ?_
  refine gl_ef (ef_callq en_10 rfl (keys_EncodeI _ _ b (by first | omega | (simp only [List.length_append, List.length_cons, List.length_nil, List.length_take, List.length_drop, List.length_map, List.length_replicate, List.length_set, u8s_length, fx_length, fixed_length, turn_length]; omega)) hob htb) perm_all (fun _ _ _ _ h => ⟨hK.le h, hRb.mono h⟩) rfl) ?_
  rintro _ _ _ ⟨v17, rfl, rfl, rfl, rfl⟩
  refine gl_y rfl (y_move rfl) ?_
  refine gl_y rfl (y_extract rfl rfl) ?_
  refine gl_y rfl (y_extract rfl rfl) ?_
  refine gl_y rfl (y_assign rfl) ?_
  refine gl_y rfl (y_assign rfl) ?_
  refine gl_nil ?_
  refine gq_then' ?_
  refine gc_seq ?_
  refine gc_seq ?_
  refine gc_region ?_
  refine gl_y rfl (y_move rfl) ?_
  refine gl_y rfl (y_neq rfl rfl) ?_
  refine gl_y rfl (y_move rfl) ?_
  refine gl_if (t := 22) rfl (fun h22 => ?_) (fun h22 => ?_)
  · have g22 := h22
    try (replace g22 := of_decide_eq_true g22)
    first
    | exact absurd h22 (by decide)
    | (exfalso; omega)
    | (exfalso; exact absurd rfl g22)
    | skip
      refine gl_skip rfl rfl rfl h22 rfl ?_
      refine gl_skip rfl rfl rfl h22 rfl ?_
      refine gl_y rfl (y_pick_t rfl h22 rfl) ?_
      refine gl_nil ?_
      refine gq_then' ?_
      refine gc_t rfl rfl ?_
      refine gc_seq ?_
      refine gc_region ?_
      refine gl_y rfl (y_assign rfl) ?_
      refine gl_y rfl (y_assign rfl) ?_
      refine gl_nil ?_
      refine gq_then' ?_
      refine gc_ret ?_
      refine gq_pass_ret ?_
      refine gq_r2 rfl rfl rfl perm_all ?_
      rw [cmpAll_law _ _ (items_ok hoa hta) (items_ok hob htb)]
  · have g22 := h22
    try (replace g22 := of_decide_eq_false g22)
    first
    | exact absurd h22 (by decide)
    | (exfalso; omega)
    | (exfalso; exact absurd rfl g22)
    | skip
      refine gl_want rfl rfl rfl h22 ?_
      refine gl_y rfl (y_move rfl) ?_
      refine gl_want rfl rfl rfl h22 ?_
      refine gl_y rfl (y_neq rfl rfl) ?_
      refine gl_y rfl (y_pick_f rfl h22 rfl) ?_
      refine gl_nil ?_
      refine gq_then' ?_
      refine gc_if rfl (fun h25 => ?_) (fun h25 => ?_)
      · have g25 := h25
        try (replace g25 := of_decide_eq_true g25)
        first
        | exact absurd h25 (by decide)
        | (exfalso; omega)
        | (exfalso; exact absurd rfl g25)
        | skip
          refine gc_seq ?_
          refine gc_region ?_
          refine gl_y rfl (y_assign rfl) ?_
          refine gl_y rfl (y_assign rfl) ?_
          refine gl_nil ?_
          refine gq_then' ?_
          refine gc_ret ?_
          refine gq_pass_ret ?_
          refine gq_r2 rfl rfl rfl perm_all ?_
          rw [cmpAll_law _ _ (items_ok hoa hta) (items_ok hob htb)]
      · have g25 := h25
        try (replace g25 := of_decide_eq_false g25)
        first
        | exact absurd h25 (by decide)
        | (exfalso; omega)
        | (exfalso; exact absurd rfl g25)
        | skip
          refine gc_skip ?_
          refine gq_then' ?_
          refine gc_seq ?_
          refine gc_region ?_
          refine gl_y rfl (y_move rfl) ?_
          refine gl_y rfl (y_move rfl) ?_
          refine gl_ef (ef_callp en_20 rfl (p_Compare _ _) rfl) ?_
          rintro _ _ _ ⟨v28, rfl, rfl, rfl, rfl⟩
          refine gl_y rfl (y_assign rfl) ?_
          refine gl_y rfl (y_assign rfl) ?_
          refine gl_nil ?_
          refine gq_then' ?_
          refine gc_ret ?_
          refine gq_r2 rfl rfl rfl perm_all ?_
          rw [cmpAll_law _ _ (items_ok hoa hta) (items_ok hob htb)]
end Go.Proofs.YtgoaclokjenpkaaDoorS
