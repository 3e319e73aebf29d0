/- keyslaw: what the laws of keys call, and KeysFirst. -/
import Derived.Test.YtgoaclokjenpkaaDoorSepFacts
import Derived.Test.YtgoaclokjenpkaaDoorSepQ
import Derived.Test.YtgoaclokjenpkaaDoorKeysQ
import Derived.Test.YtgoaclokjenpkaaDoorXPrim
import Derived.Test.YtgoaclokjenpkaaDoorXKeys
set_option linter.unusedVariables false
set_option linter.unusedSimpArgs false
set_option maxRecDepth 20000
namespace Go.Proofs.YtgoaclokjenpkaaDoorS
open Go.RowKit Go.Proofs

theorem rem6 (k : Nat) (h : k < 256) : ((k : Int)).tmod 6 = ((k % 6 : Nat) : Int) := by
  rw [Int.tmod_eq_emod_of_nonneg (by omega)]; omega
abbrev riB (b : Nat) (r : RI) : Ent := cl b 24 r.cells
theorem ri_cells (l : List RI) (i off : Nat) (r : RI) (h : l[i]? = some r) (ho : off < 5) : ((l.map RI.cells).flatten)[(i : Int).toNat * 5 + off]? = r.cells[off]? := by
  rw [Int.toNat_natCast]; exact flat_get (k := 5) (fun _ => rfl) l i off r h ho

theorem law_value (r : RI) (h : r.ok) : CtrP Tryd.prog 11 [.agg r.cells.toArray] (fun v => v = r.item.val) := by
  obtain ⟨hk, hi0, hi1, hu⟩ := h
  refine CtrP.of fun I => ?_
  refine ctr_of Tryd.func11 rfl (n := 34) rfl rfl ?_
  intro G R
  simp only [argL]
  refine gc_seq ?_
  refine gc_region ?_
  refine gl_ef (ef_box rfl (l := [_, _, _, _, _]) rfl rfl) ?_
  rintro _ _ _ ⟨b1, rfl, rfl, rfl⟩
  refine gl_y rfl (y_assign rfl) ?_
  refine gl_nil ?_
  refine gq_then' ?_
  refine gc_seq ?_
  refine gc_region ?_
  refine gl_y rfl (y_assign rfl) ?_
  refine gl_nil ?_
  refine gq_then' ?_
  refine gc_seq ?_
  refine gc_seq ?_
  refine gc_region ?_
  refine gl_y rfl (y_faddr fo_24_0 rfl) ?_
  refine gl_y rfl (y_load ag_5 rfl (blk_own (i := 0) rfl) rfl) ?_
  refine gl_y rfl (y_rem rfl rfl (by omega) (rem6 _ hk)) ?_
  refine gl_nil ?_
  refine gq_then' ?_
  refine gc_block ?_
  refine gc_seq ?_
  refine gc_region ?_
  refine gl_y rfl (y_eql rfl rfl) ?_
  refine gl_y rfl (y_assign rfl) ?_
  refine gl_nil ?_
  refine gq_then' ?_
  refine gc_if rfl (fun h7 => ?_) (fun h7 => ?_)
  · have g7 := h7
    try (replace g7 := of_decide_eq_true g7)
    first
    | exact absurd h7 (by decide)
    | (exfalso; omega)
    | skip
      refine gc_region ?_
      refine gl_y rfl (y_mkiface co_4 rfl) ?_
      refine gl_y rfl (y_assign rfl) ?_
      refine gl_nil ?_
      refine gq_in_normal ?_
      refine gq_then' ?_
      refine gc_seq ?_
      refine gc_seq ?_
      refine gc_region ?_
      refine gl_y rfl (y_faddr fo_24_4 rfl) ?_
      refine gl_y rfl (y_load ag_4 rfl (blk_own (i := 0) rfl) rfl) ?_
      refine gl_nil ?_
      refine gq_then' ?_
      refine gc_if rfl (fun h29 => ?_) (fun h29 => ?_)
      · have g29 := h29
        try (replace g29 := of_decide_eq_true g29)
        first
        | exact absurd h29 (by decide)
        | (exfalso; omega)
        | skip
          refine gc_seq ?_
          refine gc_region ?_
          refine gl_y rfl (y_move rfl) ?_
          refine gl_y rfl (y_build pl_41 zr_41 rfl (cs := [_]) rfl) ?_
          refine gl_y rfl (y_mkiface co_41 rfl) ?_
          refine gl_y rfl (y_assign rfl) ?_
          refine gl_nil ?_
          refine gq_then' ?_
          refine gc_ret ?_
          refine gq_pass_ret ?_
          refine gq_r1 rfl rfl perm_all ?_
          first | (have e : r.kind % 6 = 1 := by omega) | (have e : r.kind % 6 = 2 := by omega) | (have e : r.kind % 6 = 3 := by omega) | (have e : r.kind % 6 = 4 := by omega) | (have e : r.kind % 6 = 5 := by omega) | (have e : r.kind % 6 = 0 := by omega)
          simp only [RI.item, KItem.val, RI.kit, e, h29]; rfl
      · have g29 := h29
        try (replace g29 := of_decide_eq_false g29)
        first
        | exact absurd h29 (by decide)
        | (exfalso; omega)
        | skip
          refine gc_skip ?_
          refine gq_then' ?_
          refine gc_seq ?_
          refine gc_region ?_
          refine gl_y rfl (y_move rfl) ?_
          refine gl_y rfl (y_assign rfl) ?_
          refine gl_nil ?_
          refine gq_then' ?_
          refine gc_ret ?_
          refine gq_r1 rfl rfl perm_all ?_
          first | (have e : r.kind % 6 = 1 := by omega) | (have e : r.kind % 6 = 2 := by omega) | (have e : r.kind % 6 = 3 := by omega) | (have e : r.kind % 6 = 4 := by omega) | (have e : r.kind % 6 = 5 := by omega) | (have e : r.kind % 6 = 0 := by omega)
          simp only [RI.item, KItem.val, RI.kit, e, h29]; rfl
  · have g7 := h7
    try (replace g7 := of_decide_eq_false g7)
    first
    | exact absurd h7 (by decide)
    | (exfalso; omega)
    | skip
      refine gc_seq ?_
      refine gc_region ?_
      refine gl_y rfl (y_eql rfl rfl) ?_
      refine gl_y rfl (y_assign rfl) ?_
      refine gl_nil ?_
      refine gq_then' ?_
      refine gc_if rfl (fun h10 => ?_) (fun h10 => ?_)
      · have g10 := h10
        try (replace g10 := of_decide_eq_true g10)
        first
        | exact absurd h10 (by decide)
        | (exfalso; omega)
        | skip
          refine gc_region ?_
          refine gl_y rfl (y_mkiface co_4 rfl) ?_
          refine gl_y rfl (y_assign rfl) ?_
          refine gl_nil ?_
          refine gq_in_normal ?_
          refine gq_then' ?_
          refine gc_seq ?_
          refine gc_seq ?_
          refine gc_region ?_
          refine gl_y rfl (y_faddr fo_24_4 rfl) ?_
          refine gl_y rfl (y_load ag_4 rfl (blk_own (i := 0) rfl) rfl) ?_
          refine gl_nil ?_
          refine gq_then' ?_
          refine gc_if rfl (fun h29 => ?_) (fun h29 => ?_)
          · have g29 := h29
            try (replace g29 := of_decide_eq_true g29)
            first
            | exact absurd h29 (by decide)
            | (exfalso; omega)
            | skip
              refine gc_seq ?_
              refine gc_region ?_
              refine gl_y rfl (y_move rfl) ?_
              refine gl_y rfl (y_build pl_41 zr_41 rfl (cs := [_]) rfl) ?_
              refine gl_y rfl (y_mkiface co_41 rfl) ?_
              refine gl_y rfl (y_assign rfl) ?_
              refine gl_nil ?_
              refine gq_then' ?_
              refine gc_ret ?_
              refine gq_pass_ret ?_
              refine gq_r1 rfl rfl perm_all ?_
              first | (have e : r.kind % 6 = 1 := by omega) | (have e : r.kind % 6 = 2 := by omega) | (have e : r.kind % 6 = 3 := by omega) | (have e : r.kind % 6 = 4 := by omega) | (have e : r.kind % 6 = 5 := by omega) | (have e : r.kind % 6 = 0 := by omega)
              simp only [RI.item, KItem.val, RI.kit, e, h29]; rfl
          · have g29 := h29
            try (replace g29 := of_decide_eq_false g29)
            first
            | exact absurd h29 (by decide)
            | (exfalso; omega)
            | skip
              refine gc_skip ?_
              refine gq_then' ?_
              refine gc_seq ?_
              refine gc_region ?_
              refine gl_y rfl (y_move rfl) ?_
              refine gl_y rfl (y_assign rfl) ?_
              refine gl_nil ?_
              refine gq_then' ?_
              refine gc_ret ?_
              refine gq_r1 rfl rfl perm_all ?_
              first | (have e : r.kind % 6 = 1 := by omega) | (have e : r.kind % 6 = 2 := by omega) | (have e : r.kind % 6 = 3 := by omega) | (have e : r.kind % 6 = 4 := by omega) | (have e : r.kind % 6 = 5 := by omega) | (have e : r.kind % 6 = 0 := by omega)
              simp only [RI.item, KItem.val, RI.kit, e, h29]; rfl
      · have g10 := h10
        try (replace g10 := of_decide_eq_false g10)
        first
        | exact absurd h10 (by decide)
        | (exfalso; omega)
        | skip
          refine gc_seq ?_
          refine gc_region ?_
          refine gl_y rfl (y_eql rfl rfl) ?_
          refine gl_y rfl (y_assign rfl) ?_
          refine gl_nil ?_
          refine gq_then' ?_
          refine gc_if rfl (fun h13 => ?_) (fun h13 => ?_)
          · have g13 := h13
            try (replace g13 := of_decide_eq_true g13)
            first
            | exact absurd h13 (by decide)
            | (exfalso; omega)
            | skip
              refine gc_region ?_
              refine gl_y rfl (y_faddr fo_24_1 rfl) ?_
              refine gl_y rfl (y_load ag_2 rfl (blk_own (i := 0) rfl) rfl) ?_
              refine gl_y rfl (y_mkiface co_2 rfl) ?_
              refine gl_y rfl (y_assign rfl) ?_
              refine gl_nil ?_
              refine gq_in_normal ?_
              refine gq_then' ?_
              refine gc_seq ?_
              refine gc_seq ?_
              refine gc_region ?_
              refine gl_y rfl (y_faddr fo_24_4 rfl) ?_
              refine gl_y rfl (y_load ag_4 rfl (blk_own (i := 0) rfl) rfl) ?_
              refine gl_nil ?_
              refine gq_then' ?_
              refine gc_if rfl (fun h29 => ?_) (fun h29 => ?_)
              · have g29 := h29
                try (replace g29 := of_decide_eq_true g29)
                first
                | exact absurd h29 (by decide)
                | (exfalso; omega)
                | skip
                  refine gc_seq ?_
                  refine gc_region ?_
                  refine gl_y rfl (y_move rfl) ?_
                  refine gl_y rfl (y_build pl_41 zr_41 rfl (cs := [_]) rfl) ?_
                  refine gl_y rfl (y_mkiface co_41 rfl) ?_
                  refine gl_y rfl (y_assign rfl) ?_
                  refine gl_nil ?_
                  refine gq_then' ?_
                  refine gc_ret ?_
                  refine gq_pass_ret ?_
                  refine gq_r1 rfl rfl perm_all ?_
                  first | (have e : r.kind % 6 = 1 := by omega) | (have e : r.kind % 6 = 2 := by omega) | (have e : r.kind % 6 = 3 := by omega) | (have e : r.kind % 6 = 4 := by omega) | (have e : r.kind % 6 = 5 := by omega) | (have e : r.kind % 6 = 0 := by omega)
                  simp only [RI.item, KItem.val, RI.kit, e, h29]; rfl
              · have g29 := h29
                try (replace g29 := of_decide_eq_false g29)
                first
                | exact absurd h29 (by decide)
                | (exfalso; omega)
                | skip
                  refine gc_skip ?_
                  refine gq_then' ?_
                  refine gc_seq ?_
                  refine gc_region ?_
                  refine gl_y rfl (y_move rfl) ?_
                  refine gl_y rfl (y_assign rfl) ?_
                  refine gl_nil ?_
                  refine gq_then' ?_
                  refine gc_ret ?_
                  refine gq_r1 rfl rfl perm_all ?_
                  first | (have e : r.kind % 6 = 1 := by omega) | (have e : r.kind % 6 = 2 := by omega) | (have e : r.kind % 6 = 3 := by omega) | (have e : r.kind % 6 = 4 := by omega) | (have e : r.kind % 6 = 5 := by omega) | (have e : r.kind % 6 = 0 := by omega)
                  simp only [RI.item, KItem.val, RI.kit, e, h29]; rfl
          · have g13 := h13
            try (replace g13 := of_decide_eq_false g13)
            first
            | exact absurd h13 (by decide)
            | (exfalso; omega)
            | skip
              refine gc_seq ?_
              refine gc_region ?_
              refine gl_y rfl (y_eql rfl rfl) ?_
              refine gl_y rfl (y_assign rfl) ?_
              refine gl_nil ?_
              refine gq_then' ?_
              refine gc_if rfl (fun h18 => ?_) (fun h18 => ?_)
              · have g18 := h18
                try (replace g18 := of_decide_eq_true g18)
                first
                | exact absurd h18 (by decide)
                | (exfalso; omega)
                | skip
                  refine gc_region ?_
                  refine gl_y rfl (y_faddr fo_24_2 rfl) ?_
                  refine gl_y rfl (y_load ag_22 rfl (blk_own (i := 0) rfl) rfl) ?_
                  refine gl_y rfl (y_mkiface co_22 rfl) ?_
                  refine gl_y rfl (y_assign rfl) ?_
                  refine gl_nil ?_
                  refine gq_in_normal ?_
                  refine gq_then' ?_
                  refine gc_seq ?_
                  refine gc_seq ?_
                  refine gc_region ?_
                  refine gl_y rfl (y_faddr fo_24_4 rfl) ?_
                  refine gl_y rfl (y_load ag_4 rfl (blk_own (i := 0) rfl) rfl) ?_
                  refine gl_nil ?_
                  refine gq_then' ?_
                  refine gc_if rfl (fun h29 => ?_) (fun h29 => ?_)
                  · have g29 := h29
                    try (replace g29 := of_decide_eq_true g29)
                    first
                    | exact absurd h29 (by decide)
                    | (exfalso; omega)
                    | skip
                      refine gc_seq ?_
                      refine gc_region ?_
                      refine gl_y rfl (y_move rfl) ?_
                      refine gl_y rfl (y_build pl_41 zr_41 rfl (cs := [_]) rfl) ?_
                      refine gl_y rfl (y_mkiface co_41 rfl) ?_
                      refine gl_y rfl (y_assign rfl) ?_
                      refine gl_nil ?_
                      refine gq_then' ?_
                      refine gc_ret ?_
                      refine gq_pass_ret ?_
                      refine gq_r1 rfl rfl perm_all ?_
                      first | (have e : r.kind % 6 = 1 := by omega) | (have e : r.kind % 6 = 2 := by omega) | (have e : r.kind % 6 = 3 := by omega) | (have e : r.kind % 6 = 4 := by omega) | (have e : r.kind % 6 = 5 := by omega) | (have e : r.kind % 6 = 0 := by omega)
                      simp only [RI.item, KItem.val, RI.kit, e, h29]; rfl
                  · have g29 := h29
                    try (replace g29 := of_decide_eq_false g29)
                    first
                    | exact absurd h29 (by decide)
                    | (exfalso; omega)
                    | skip
                      refine gc_skip ?_
                      refine gq_then' ?_
                      refine gc_seq ?_
                      refine gc_region ?_
                      refine gl_y rfl (y_move rfl) ?_
                      refine gl_y rfl (y_assign rfl) ?_
                      refine gl_nil ?_
                      refine gq_then' ?_
                      refine gc_ret ?_
                      refine gq_r1 rfl rfl perm_all ?_
                      first | (have e : r.kind % 6 = 1 := by omega) | (have e : r.kind % 6 = 2 := by omega) | (have e : r.kind % 6 = 3 := by omega) | (have e : r.kind % 6 = 4 := by omega) | (have e : r.kind % 6 = 5 := by omega) | (have e : r.kind % 6 = 0 := by omega)
                      simp only [RI.item, KItem.val, RI.kit, e, h29]; rfl
              · have g18 := h18
                try (replace g18 := of_decide_eq_false g18)
                first
                | exact absurd h18 (by decide)
                | (exfalso; omega)
                | skip
                  refine gc_seq ?_
                  refine gc_region ?_
                  refine gl_y rfl (y_eql rfl rfl) ?_
                  refine gl_y rfl (y_assign rfl) ?_
                  refine gl_nil ?_
                  refine gq_then' ?_
                  refine gc_if rfl (fun h23 => ?_) (fun h23 => ?_)
                  · have g23 := h23
                    try (replace g23 := of_decide_eq_true g23)
                    first
                    | exact absurd h23 (by decide)
                    | (exfalso; omega)
                    | skip
                      refine gc_region ?_
                      refine gl_y rfl (y_faddr fo_24_3 rfl) ?_
                      refine gl_y rfl (y_load ag_9 rfl (blk_own (i := 0) rfl) rfl) ?_
                      refine gl_y rfl (y_mkiface co_9 rfl) ?_
                      refine gl_y rfl (y_assign rfl) ?_
                      refine gl_nil ?_
                      refine gq_in_normal ?_
                      refine gq_then' ?_
                      refine gc_seq ?_
                      refine gc_seq ?_
                      refine gc_region ?_
                      refine gl_y rfl (y_faddr fo_24_4 rfl) ?_
                      refine gl_y rfl (y_load ag_4 rfl (blk_own (i := 0) rfl) rfl) ?_
                      refine gl_nil ?_
                      refine gq_then' ?_
                      refine gc_if rfl (fun h29 => ?_) (fun h29 => ?_)
                      · have g29 := h29
                        try (replace g29 := of_decide_eq_true g29)
                        first
                        | exact absurd h29 (by decide)
                        | (exfalso; omega)
                        | skip
                          refine gc_seq ?_
                          refine gc_region ?_
                          refine gl_y rfl (y_move rfl) ?_
                          refine gl_y rfl (y_build pl_41 zr_41 rfl (cs := [_]) rfl) ?_
                          refine gl_y rfl (y_mkiface co_41 rfl) ?_
                          refine gl_y rfl (y_assign rfl) ?_
                          refine gl_nil ?_
                          refine gq_then' ?_
                          refine gc_ret ?_
                          refine gq_pass_ret ?_
                          refine gq_r1 rfl rfl perm_all ?_
                          first | (have e : r.kind % 6 = 1 := by omega) | (have e : r.kind % 6 = 2 := by omega) | (have e : r.kind % 6 = 3 := by omega) | (have e : r.kind % 6 = 4 := by omega) | (have e : r.kind % 6 = 5 := by omega) | (have e : r.kind % 6 = 0 := by omega)
                          simp only [RI.item, KItem.val, RI.kit, e, h29]; rfl
                      · have g29 := h29
                        try (replace g29 := of_decide_eq_false g29)
                        first
                        | exact absurd h29 (by decide)
                        | (exfalso; omega)
                        | skip
                          refine gc_skip ?_
                          refine gq_then' ?_
                          refine gc_seq ?_
                          refine gc_region ?_
                          refine gl_y rfl (y_move rfl) ?_
                          refine gl_y rfl (y_assign rfl) ?_
                          refine gl_nil ?_
                          refine gq_then' ?_
                          refine gc_ret ?_
                          refine gq_r1 rfl rfl perm_all ?_
                          first | (have e : r.kind % 6 = 1 := by omega) | (have e : r.kind % 6 = 2 := by omega) | (have e : r.kind % 6 = 3 := by omega) | (have e : r.kind % 6 = 4 := by omega) | (have e : r.kind % 6 = 5 := by omega) | (have e : r.kind % 6 = 0 := by omega)
                          simp only [RI.item, KItem.val, RI.kit, e, h29]; rfl
                  · have g23 := h23
                    try (replace g23 := of_decide_eq_false g23)
                    first
                    | exact absurd h23 (by decide)
                    | (exfalso; omega)
                    | skip
                      refine gc_skip ?_
                      refine gq_in_normal ?_
                      refine gq_then' ?_
                      refine gc_seq ?_
                      refine gc_seq ?_
                      refine gc_region ?_
                      refine gl_y rfl (y_faddr fo_24_4 rfl) ?_
                      refine gl_y rfl (y_load ag_4 rfl (blk_own (i := 0) rfl) rfl) ?_
                      refine gl_nil ?_
                      refine gq_then' ?_
                      refine gc_if rfl (fun h29 => ?_) (fun h29 => ?_)
                      · have g29 := h29
                        try (replace g29 := of_decide_eq_true g29)
                        first
                        | exact absurd h29 (by decide)
                        | (exfalso; omega)
                        | skip
                          refine gc_seq ?_
                          refine gc_region ?_
                          refine gl_y rfl (y_move rfl) ?_
                          refine gl_y rfl (y_build pl_41 zr_41 rfl (cs := [_]) rfl) ?_
                          refine gl_y rfl (y_mkiface co_41 rfl) ?_
                          refine gl_y rfl (y_assign rfl) ?_
                          refine gl_nil ?_
                          refine gq_then' ?_
                          refine gc_ret ?_
                          refine gq_pass_ret ?_
                          refine gq_r1 rfl rfl perm_all ?_
                          first | (have e : r.kind % 6 = 1 := by omega) | (have e : r.kind % 6 = 2 := by omega) | (have e : r.kind % 6 = 3 := by omega) | (have e : r.kind % 6 = 4 := by omega) | (have e : r.kind % 6 = 5 := by omega) | (have e : r.kind % 6 = 0 := by omega)
                          simp only [RI.item, KItem.val, RI.kit, e, h29]; rfl
                      · have g29 := h29
                        try (replace g29 := of_decide_eq_false g29)
                        first
                        | exact absurd h29 (by decide)
                        | (exfalso; omega)
                        | skip
                          refine gc_skip ?_
                          refine gq_then' ?_
                          refine gc_seq ?_
                          refine gc_region ?_
                          refine gl_y rfl (y_move rfl) ?_
                          refine gl_y rfl (y_assign rfl) ?_
                          refine gl_nil ?_
                          refine gq_then' ?_
                          refine gc_ret ?_
                          refine gq_r1 rfl rfl perm_all ?_
                          first | (have e : r.kind % 6 = 1 := by omega) | (have e : r.kind % 6 = 2 := by omega) | (have e : r.kind % 6 = 3 := by omega) | (have e : r.kind % 6 = 4 := by omega) | (have e : r.kind % 6 = 5 := by omega) | (have e : r.kind % 6 = 0 := by omega)
                          simp only [RI.item, KItem.val, RI.kit, e, h29]; rfl
theorem ref_Few (A : Option Addr) (c : Nat) (l : List RI) (hl : l.length ≤ 9223372036854775807) : CtrQ Tryd.prog 9 [.slice A l.length c] (fun I => Rsl I 5 A l.length ((l.map RI.cells).flatten)) (fun v => v = .bool (rfew l)) := by
  refine CtrQ.of fun I hK => ?_
  refine ctr_of Tryd.func9 rfl (n := 24) rfl rfl ?_
  intro G R
  simp only [argL]
  refine gc_seq ?_
  refine gc_region ?_
  refine gl_y rfl (y_assign rfl) ?_
  refine gl_nil ?_
  refine gq_then' ?_
  refine gc_seq ?_
  refine gc_seq ?_
  refine gc_region ?_
  refine gl_y rfl (y_assign rfl) ?_
  refine gl_nil ?_
  refine gq_then' ?_
  refine gc_block ?_
  refine gc_loopW (α := Nat) [4, 5, 6, 7, 8, 9, 10, 11, 14, 15, 16, 17, 18, 19, 20, 2, 12, 13, 3] (fun (i : Nat) => [(3, .int .i64 (i : Int))]) (fun (i : Nat) => []) (fun (i : Nat) => i ≤ l.length ∧ i ≤ 50 ∧ (l.take i).all (fun r => decide (r.text.length ≤ 100)) = true) (fun (i : Nat) => l.length - i) 0 ?_ perm_all ?_ ?_
  · exact ⟨Nat.zero_le _, Nat.zero_le _, rfl⟩
  · exact ⟨rfl, trivial⟩
  · rintro i ⟨hi, hj, hal⟩
    refine gc_seq ?_
    refine gc_seq ?_
    refine gc_region ?_
    refine gl_y rfl (y_move rfl) ?_
    refine gl_y rfl (y_move rfl) ?_
    refine gl_y rfl (y_len Tryd.underlying27 rfl) ?_
    refine gl_y rfl (y_lss rfl rfl) ?_
    refine gl_y rfl (y_move rfl) ?_
    refine gl_if (t := 8) rfl (fun h8 => ?_) (fun h8 => ?_)
    · have g8 := h8
      try (replace g8 := of_decide_eq_true g8)
      first
      | exact absurd h8 (by decide)
      | (exfalso; omega)
      | skip
        refine gl_want rfl rfl rfl h8 ?_
        refine gl_y rfl (y_move rfl) ?_
        refine gl_want rfl rfl rfl h8 ?_
        refine gl_y rfl (y_lss rfl rfl) ?_
        refine gl_y rfl (y_pick_t rfl h8 rfl) ?_
        refine gl_nil ?_
        refine gq_then' ?_
        refine gc_if rfl (fun h11 => ?_) (fun h11 => ?_)
        · have g11 := h11
          try (replace g11 := of_decide_eq_true g11)
          first
          | exact absurd h11 (by decide)
          | (exfalso; omega)
          | skip
            refine gc_skip ?_
            refine gq_then' ?_
            refine gc_seq ?_
            refine gc_block ?_
            refine gc_seq ?_
            refine gc_region ?_
            obtain ⟨a, ha⟩ : ∃ a, l[i]? = some a := ⟨_, List.getElem?_eq_getElem (by omega)⟩
            obtain ⟨b, o, t, fz, cs, hA, hI, hc⟩ := hK.pos (by omega)
            have hv : cs[o + (i : Int).toNat * 5 + 3]? = some (.string (bs a.text)) := by rw [Nat.add_assoc]; exact hc _ _ (ri_cells l i 3 a ha (by decide))
            refine gl_y rfl (y_move rfl) ?_
            refine gl_y rfl (y_move rfl) ?_
            refine gl_y rfl (y_iaddrA Tryd.underlying27 sz_24 rfl hA rfl (by omega) (by omega)) ?_
            refine gl_y rfl (y_faddr fo_24_3 rfl) ?_
            refine gl_y rfl (y_load ag_9 rfl (blk_known hI) hv) ?_
            refine gl_y rfl (y_slen Tryd.underlying9 rfl) ?_
            refine gl_y rfl (y_gtr rfl rfl) ?_
            refine gl_nil ?_
            refine gq_then' ?_
            refine gc_if rfl (fun h20 => ?_) (fun h20 => ?_)
            · have g20 := h20
              try (replace g20 := of_decide_eq_true g20)
              first
              | exact absurd h20 (by decide)
              | (exfalso; omega)
              | skip
                refine gc_seq ?_
                refine gc_region ?_
                refine gl_y rfl (y_assign rfl) ?_
                refine gl_nil ?_
                refine gq_then' ?_
                refine gc_ret ?_
                refine gq_in_ret ?_
                refine gq_pass_ret ?_
                refine gq_pass_ret ?_
                refine gq_in_ret ?_
                refine gq_pass_ret ?_
                refine gq_r1 rfl rfl perm_all ?_
                show Value.bool _ = _
                rw [show rfew l = false from ?_]
                simp only [rfew, Bool.and_eq_false_iff]
                left
                rw [List.all_eq_false]
                exact ⟨a, List.mem_of_getElem? (i := i) (by rw [List.getElem?_take_of_lt (by omega)]; exact ha), by simp; omega⟩
            · have g20 := h20
              try (replace g20 := of_decide_eq_false g20)
              first
              | exact absurd h20 (by decide)
              | (exfalso; omega)
              | skip
                refine gc_skip ?_
                refine gq_in_normal ?_
                refine gq_then' ?_
                refine gc_region ?_
                refine gl_y rfl (y_move rfl) ?_
                first | refine gl_y rfl (y_add rfl rfl (wr_i64 (by omega) (by omega))) ?_ | refine gl_y rfl (y_add rfl rfl rfl) ?_
                refine gl_y rfl (y_assign rfl) ?_
                refine gl_nil ?_
                refine gq_roundW (i + 1) ?_ ?_ perm_all rfl (by repeat (first | exact Ext.refl | refine Ext.cons rfl ?_)) ?_
                · exact ⟨by omega, by omega, by rw [List.take_add_one, ha, List.all_append, hal]; simp; omega⟩
                · (show l.length - (i + 1) < l.length - i); omega
                · exact ⟨rfl, trivial⟩
        · have g11 := h11
          try (replace g11 := of_decide_eq_false g11)
          first
          | exact absurd h11 (by decide)
          | (exfalso; omega)
          | skip
            refine gc_exit ?_
            refine gq_pass_exit ?_
            refine gq_pass_exit ?_
            refine gq_in_exit ?_
            refine gq_then' ?_
            refine gc_seq ?_
            refine gc_region ?_
            refine gl_y rfl (y_move rfl) ?_
            refine gl_y rfl (y_len Tryd.underlying27 rfl) ?_
            refine gl_y rfl (y_leq rfl rfl) ?_
            refine gl_y rfl (y_assign rfl) ?_
            refine gl_nil ?_
            refine gq_then' ?_
            refine gc_ret ?_
            refine gq_r1 rfl rfl perm_all ?_
            show Value.bool _ = _
            congr 1
            have e1 : (l.take 50).all (fun r => decide (r.text.length ≤ 100)) = true := by
              first
              | (have e : i = 50 := by omega); subst e; exact hal
              | (have e : l.take 50 = l.take i := by rw [List.take_of_length_le (by omega), List.take_of_length_le (by omega)]); rw [e]; exact hal
            simp only [rfew, e1, Bool.true_and]
            congr 1
            apply propext
            omega
    · have g8 := h8
      try (replace g8 := of_decide_eq_false g8)
      first
      | exact absurd h8 (by decide)
      | (exfalso; omega)
      | skip
        refine gl_skip rfl rfl rfl h8 rfl ?_
        refine gl_skip rfl rfl rfl h8 rfl ?_
        refine gl_y rfl (y_pick_f rfl h8 rfl) ?_
        refine gl_nil ?_
        refine gq_then' ?_
        refine gc_f rfl rfl ?_
        refine gc_exit ?_
        refine gq_pass_exit ?_
        refine gq_pass_exit ?_
        refine gq_in_exit ?_
        refine gq_then' ?_
        refine gc_seq ?_
        refine gc_region ?_
        refine gl_y rfl (y_move rfl) ?_
        refine gl_y rfl (y_len Tryd.underlying27 rfl) ?_
        refine gl_y rfl (y_leq rfl rfl) ?_
        refine gl_y rfl (y_assign rfl) ?_
        refine gl_nil ?_
        refine gq_then' ?_
        refine gc_ret ?_
        refine gq_r1 rfl rfl perm_all ?_
        show Value.bool _ = _
        congr 1
        have e1 : (l.take 50).all (fun r => decide (r.text.length ≤ 100)) = true := by
          first
          | (have e : i = 50 := by omega); subst e; exact hal
          | (have e : l.take 50 = l.take i := by rw [List.take_of_length_le (by omega), List.take_of_length_le (by omega)]); rw [e]; exact hal
        simp only [rfew, e1, Bool.true_and]
        congr 1
        apply propext
        omega

theorem KItem.val_one (a : KItem) : one1 a.val = true := by obtain ⟨x, d⟩ := a; cases d <;> cases x <;> rfl
theorem keys_Encode1 (A : Option Addr) (c : Nat) (a : KItem) (ok : a.x.ok) : CtrQ Tryd.prog 10 [.slice A 1 c] (fun I => KMax I ∧ Rsl I 1 A 1 [a.val]) (fun v => v = .tuple #[.string (bs a.enc), .int .i64 0]) :=
  (keys_Encode A c [a] (by simp) (by simpa using ok)).mono (fun _ h => h) (by rintro v rfl; simp [encAll])

theorem law_awake  : CtrQ Tryd.prog 8 [] (KMax) (fun v => v = .bool true) := by
  refine CtrQ.of fun I hK => ?_
  refine ctr_of Tryd.func8 rfl (n := 16) rfl rfl ?_
  intro G R
  simp only [argL]
  refine gc_seq ?_
  refine gc_region ?_
  refine gl_y rfl (y_assign rfl) ?_
  refine gl_nil ?_
  refine gq_then' ?_
  refine gc_seq ?_
  refine gc_region ?_
  refine gl_y rfl (y_mkiface co_4 rfl) ?_
  refine gl_y rfl (y_mkiface co_9 rfl) ?_
  refine gl_ef (ef_buildSlice Tryd.underlying36 sz_20 zr_20 rfl rfl rfl (cs := [_, _]) (zl := [_]) rfl rfl rfl rfl) ?_
  rintro _ _ _ ⟨b6, rfl, rfl, rfl⟩
  refine gl_ef (ef_callq en_10 rfl (keys_Encode _ _ [⟨.yes, false⟩, ⟨.text [97], false⟩] (by decide) (by intro a ha; simp only [List.mem_cons, List.not_mem_nil, or_false] at ha; rcases ha with rfl | rfl; trivial; exact (by decide : (1 : Nat) ≤ 1048576))) perm_same (fun hl I' h1 h2 h3 => ⟨hK.le h3, rsl_cl0 h1 h2 rfl⟩) rfl) ?_
  rintro _ _ _ ⟨v7, rfl, rfl, rfl, rfl⟩
  refine gl_y rfl (y_move rfl) ?_
  refine gl_y rfl (y_extract rfl rfl) ?_
  refine gl_y rfl (y_extract rfl rfl) ?_
  refine gl_y rfl (y_assign rfl) ?_
  refine gl_y rfl (y_assign rfl) ?_
  refine gl_nil ?_
  refine gq_then' ?_
  refine gc_seq ?_
  refine gc_region ?_
  refine gl_y rfl (y_move rfl) ?_
  refine gl_y rfl (y_eql rfl rfl) ?_
  refine gl_y rfl (y_move rfl) ?_
  refine gl_if (t := 12) rfl (fun h12 => ?_) (fun h12 => ?_)
  · have g12 := h12
    try (replace g12 := of_decide_eq_true g12)
    first
    | exact absurd h12 (by decide)
    | (exfalso; omega)
    | skip
      refine gl_want rfl rfl rfl h12 ?_
      refine gl_y rfl (y_move rfl) ?_
      refine gl_want rfl rfl rfl h12 ?_
      refine gl_y rfl (y_seql rfl rfl) ?_
      refine gl_y rfl (y_pick_t rfl h12 rfl) ?_
      refine gl_y rfl (y_assign rfl) ?_
      refine gl_nil ?_
      refine gq_then' ?_
      refine gc_ret ?_
      refine gq_r1 rfl rfl perm_all ?_
      show Value.bool (decide _) = _
      exact congrArg Value.bool (by decide)
  · have g12 := h12
    try (replace g12 := of_decide_eq_false g12)
    first
    | exact absurd h12 (by decide)
    | (exfalso; omega)
    | skip
      refine gl_skip rfl rfl rfl h12 rfl ?_
      refine gl_skip rfl rfl rfl h12 rfl ?_
      refine gl_y rfl (y_pick_f rfl h12 rfl) ?_
      refine gl_y rfl (y_assign rfl) ?_
      refine gl_nil ?_
      refine gq_then' ?_
      refine gc_ret ?_
      refine gq_r1 rfl rfl perm_all ?_
      show Value.bool (decide _) = _
      exact congrArg Value.bool (by decide)
theorem law_KeysFirst (r s : RI) (hr : r.ok) (hs : s.ok) : CtrQ Tryd.prog 3 [.agg r.cells.toArray, .agg s.cells.toArray] (KMax) (fun v => v = .bool true) := by
  refine CtrQ.of fun I hK => ?_
  refine ctr_of Tryd.func3 rfl (n := 51) rfl rfl ?_
  intro G R
  simp only [argL]
  refine gc_seq ?_
  refine gc_region ?_
  refine gl_ef (ef_box rfl (l := [_, _, _, _, _]) rfl rfl) ?_
  rintro _ _ _ ⟨b2, rfl, rfl, rfl⟩
  refine gl_ef (ef_box rfl (l := [_, _, _, _, _]) rfl rfl) ?_
  rintro _ _ _ ⟨b3, rfl, rfl, rfl⟩
  refine gl_y rfl (y_assign rfl) ?_
  refine gl_nil ?_
  refine gq_then' ?_
  refine gc_seq ?_
  refine gc_seq ?_
  refine gc_region ?_
  refine gl_ef (ef_callq en_8 rfl (law_awake) perm_all (fun _ _ _ _ h => hK.le h) rfl) ?_
  rintro _ _ _ ⟨v9, rfl, rfl, rfl, rfl⟩
  refine gl_y rfl (y_not rfl) ?_
  refine gl_y rfl (y_move rfl) ?_
  refine gl_want rfl rfl rfl rfl ?_
  refine gl_y rfl (y_loadB ag_24 sz_24 rfl (blk_own (i := 0) rfl) (vs := [_, _, _, _, _]) rfl rfl) ?_
  refine gl_want rfl rfl rfl rfl ?_
  refine gl_y rfl (y_loadB ag_24 sz_24 rfl (blk_own (i := 1) rfl) (vs := [_, _, _, _, _]) rfl rfl) ?_
  refine gl_want rfl rfl rfl rfl ?_
  refine gl_ef (ef_buildSlice Tryd.underlying27 sz_24 zr_24 rfl rfl rfl (cs := [_, _, _, _, _, _, _, _, _, _]) (zl := [_, _, _, _, _]) rfl rfl rfl rfl) ?_
  rintro _ _ _ ⟨b14, rfl, rfl, rfl⟩
  refine gl_want rfl rfl rfl rfl ?_
  refine gl_ef (ef_callq en_9 rfl (ref_Few _ _ [r, s] (by simp)) (perm_one (i := 2) rfl) (fun hl I' h1 h2 h3 => rsl_cl0 h1 h2 rfl) rfl) ?_
  rintro _ _ _ ⟨v15, rfl, rfl, rfl, rfl⟩
  refine gl_want rfl rfl rfl rfl ?_
  refine gl_y rfl (y_not rfl) ?_
  refine gl_y rfl (y_pick_f rfl rfl rfl) ?_
  refine gl_nil ?_
  refine gq_then' ?_
  refine gc_if rfl (fun h17 => ?_) (fun h17 => ?_)
  · have g17 := h17
    try (replace g17 := of_decide_eq_true g17)
    first
    | exact absurd h17 (by decide)
    | (exfalso; omega)
    | skip
      refine gc_seq ?_
      refine gc_region ?_
      refine gl_ef (ef_callq en_8 rfl (law_awake) perm_all (fun _ _ _ _ h => hK.le h) rfl) ?_
      rintro _ _ _ ⟨v18, rfl, rfl, rfl, rfl⟩
      refine gl_y rfl (y_assign rfl) ?_
      refine gl_nil ?_
      refine gq_then' ?_
      refine gc_ret ?_
      refine gq_pass_ret ?_
      refine gq_r1 rfl rfl perm_all ?_
      first
      | exact rfl
      | exact congrArg Value.bool h36
      | exact congrArg Value.bool h43
      | (refine congrArg Value.bool (decide_eq_true ?_); intro e; exact of_decide_eq_false h36 (first_law r.item s.item (by omega) e))
  · have g17 := h17
    try (replace g17 := of_decide_eq_false g17)
    first
    | exact absurd h17 (by decide)
    | (exfalso; omega)
    | skip
      refine gc_skip ?_
      refine gq_then' ?_
      refine gc_seq ?_
      refine gc_region ?_
      have hf : rfew [r, s] = true := by simpa using h17
      have ok1 := r.item_ok hr (by have := rfew_text hf r (by simp); omega)
      have ok2 := s.item_ok hs (by have := rfew_text hf s (by simp); omega)
      have hE1 := KItem.enc_len r.item ok1
      have hE2 := KItem.enc_len s.item ok2
      refine gl_y rfl (y_loadB ag_24 sz_24 rfl (blk_own (i := 0) rfl) (vs := [_, _, _, _, _]) rfl rfl) ?_
      refine gl_ef (ef_callp en_11 rfl (law_value r hr) rfl) ?_
      rintro _ _ _ ⟨v21, rfl, rfl, rfl, rfl⟩
      refine gl_ef (ef_buildSlice Tryd.underlying36 sz_20 zr_20 rfl rfl rfl (cs := [_]) (zl := [_]) rfl rfl (fill1 (KItem.val_one _)) rfl) ?_
      rintro _ _ _ ⟨b22, rfl, rfl, rfl⟩
      refine gl_ef (ef_callq en_10 rfl (keys_Encode1 _ _ r.item ok1) (perm_one (i := 3) rfl) (fun hl I' h1 h2 h3 => ⟨hK.le h3, rsl_cl0 h1 h2 rfl⟩) rfl) ?_
      rintro _ _ _ ⟨v23, rfl, rfl, rfl, rfl⟩
      refine gl_y rfl (y_move rfl) ?_
      refine gl_y rfl (y_extract rfl rfl) ?_
      refine gl_y rfl (y_extract rfl rfl) ?_
      refine gl_y rfl (y_assign rfl) ?_
      refine gl_y rfl (y_assign rfl) ?_
      refine gl_nil ?_
      refine gq_then' ?_
      refine gc_seq ?_
      refine gc_region ?_
      refine gl_y rfl (y_loadB ag_24 sz_24 rfl (blk_own (i := 1) rfl) (vs := [_, _, _, _, _]) rfl rfl) ?_
      refine gl_ef (ef_callp en_11 rfl (law_value s hs) rfl) ?_
      rintro _ _ _ ⟨v28, rfl, rfl, rfl, rfl⟩
      refine gl_ef (ef_buildSlice Tryd.underlying36 sz_20 zr_20 rfl rfl rfl (cs := [_]) (zl := [_]) rfl rfl (fill1 (KItem.val_one _)) rfl) ?_
      rintro _ _ _ ⟨b29, rfl, rfl, rfl⟩
      refine gl_ef (ef_callq en_10 rfl (keys_Encode1 _ _ s.item ok2) (perm_one (i := 4) rfl) (fun hl I' h1 h2 h3 => ⟨hK.le h3, rsl_cl0 h1 h2 rfl⟩) rfl) ?_
      rintro _ _ _ ⟨v30, rfl, rfl, rfl, rfl⟩
      refine gl_y rfl (y_move rfl) ?_
      refine gl_y rfl (y_extract rfl rfl) ?_
      refine gl_y rfl (y_extract rfl rfl) ?_
      refine gl_y rfl (y_assign rfl) ?_
      refine gl_y rfl (y_assign rfl) ?_
      refine gl_nil ?_
      refine gq_then' ?_
      refine gc_seq ?_
      refine gc_region ?_
      refine gl_y rfl (y_move rfl) ?_
      refine gl_y rfl (y_move rfl) ?_
      refine gl_y rfl (y_seql rfl rfl) ?_
      refine gl_y rfl (y_move rfl) ?_
      refine gl_if (t := 36) rfl (fun h36 => ?_) (fun h36 => ?_)
      · have g36 := h36
        try (replace g36 := of_decide_eq_true g36)
        first
        | exact absurd h36 (by decide)
        | (exfalso; omega)
        | skip
          refine gl_skip rfl rfl rfl h36 rfl ?_
          refine gl_skip rfl rfl rfl h36 rfl ?_
          refine gl_skip rfl rfl rfl h36 rfl ?_
          refine gl_skip rfl rfl rfl h36 rfl ?_
          refine gl_skip rfl rfl rfl h36 rfl ?_
          refine gl_y rfl (y_pick_t rfl h36 rfl) ?_
          refine gl_y rfl (y_move rfl) ?_
          refine gl_skip rfl rfl rfl rfl rfl ?_
          refine gl_skip rfl rfl rfl rfl rfl ?_
          refine gl_skip rfl rfl rfl rfl rfl ?_
          refine gl_skip rfl rfl rfl rfl rfl ?_
          refine gl_skip rfl rfl rfl rfl rfl ?_
          refine gl_skip rfl rfl rfl rfl rfl ?_
          refine gl_y rfl (y_pick_t rfl rfl rfl) ?_
          refine gl_y rfl (y_assign rfl) ?_
          refine gl_nil ?_
          refine gq_then' ?_
          refine gc_ret ?_
          refine gq_r1 rfl rfl perm_all ?_
          first
          | exact rfl
          | exact congrArg Value.bool h36
          | exact congrArg Value.bool h43
          | (refine congrArg Value.bool (decide_eq_true ?_); intro e; exact of_decide_eq_false h36 (first_law r.item s.item (by omega) e))
      · have g36 := h36
        try (replace g36 := of_decide_eq_false g36)
        first
        | exact absurd h36 (by decide)
        | (exfalso; omega)
        | skip
          refine gl_want rfl rfl rfl h36 ?_
          refine gl_y rfl (y_move rfl) ?_
          refine gl_want rfl rfl rfl h36 ?_
          refine gl_y rfl (y_slen Tryd.underlying9 rfl) ?_
          refine gl_want rfl rfl rfl h36 ?_
          refine gl_y rfl (y_move rfl) ?_
          refine gl_want rfl rfl rfl h36 ?_
          refine gl_y rfl (y_slen Tryd.underlying9 rfl) ?_
          refine gl_want rfl rfl rfl h36 ?_
          refine gl_y rfl (y_gtr rfl rfl) ?_
          refine gl_y rfl (y_pick_f rfl h36 rfl) ?_
          refine gl_y rfl (y_move rfl) ?_
          refine gl_if (t := 43) rfl (fun h43 => ?_) (fun h43 => ?_)
          · have g43 := h43
            try (replace g43 := of_decide_eq_true g43)
            first
            | exact absurd h43 (by decide)
            | (exfalso; omega)
            | skip
              refine gl_skip rfl rfl rfl h43 rfl ?_
              refine gl_skip rfl rfl rfl h43 rfl ?_
              refine gl_skip rfl rfl rfl h43 rfl ?_
              refine gl_skip rfl rfl rfl h43 rfl ?_
              refine gl_skip rfl rfl rfl h43 rfl ?_
              refine gl_skip rfl rfl rfl h43 rfl ?_
              refine gl_y rfl (y_pick_t rfl h43 rfl) ?_
              refine gl_y rfl (y_assign rfl) ?_
              refine gl_nil ?_
              refine gq_then' ?_
              refine gc_ret ?_
              refine gq_r1 rfl rfl perm_all ?_
              first
              | exact rfl
              | exact congrArg Value.bool h36
              | exact congrArg Value.bool h43
              | (refine congrArg Value.bool (decide_eq_true ?_); intro e; exact of_decide_eq_false h36 (first_law r.item s.item (by omega) e))
          · have g43 := h43
            try (replace g43 := of_decide_eq_false g43)
            first
            | exact absurd h43 (by decide)
            | (exfalso; omega)
            | skip
              refine gl_want rfl rfl rfl h43 ?_
              refine gl_y rfl (y_move rfl) ?_
              refine gl_want rfl rfl rfl h43 ?_
              refine gl_y rfl (y_move rfl) ?_
              refine gl_want rfl rfl rfl h43 ?_
              refine gl_y rfl (y_slen Tryd.underlying9 rfl) ?_
              refine gl_want rfl rfl rfl h43 ?_
              refine gl_y rfl (y_sslice_h Tryd.underlying9 rfl rfl (by omega) (by first | omega | (simp only [List.length_append, List.length_cons, List.length_nil, List.length_take, List.length_drop, List.length_map, List.length_replicate, List.length_set, u8s_length, fx_length, fixed_length, turn_length]; omega))) ?_
              refine gl_want rfl rfl rfl h43 ?_
              refine gl_y rfl (y_move rfl) ?_
              refine gl_want rfl rfl rfl h43 ?_
              refine gl_y rfl (y_sneq rfl rfl) ?_
              refine gl_y rfl (y_pick_f rfl h43 rfl) ?_
              refine gl_y rfl (y_assign rfl) ?_
              refine gl_nil ?_
              refine gq_then' ?_
              refine gc_ret ?_
              refine gq_r1 rfl rfl perm_all ?_
              first
              | exact rfl
              | exact congrArg Value.bool h36
              | exact congrArg Value.bool h43
              | (refine congrArg Value.bool (decide_eq_true ?_); intro e; exact of_decide_eq_false h36 (first_law r.item s.item (by omega) e))
end Go.Proofs.YtgoaclokjenpkaaDoorS
