/- keys: items, tuples, their bytes. -/
import Derived.Test.YtgoaclokjenpkaaDoorSepFacts
import Derived.Test.YtgoaclokjenpkaaDoorSepQ
import Derived.Test.YtgoaclokjenpkaaDoorShelf
import Derived.Test.YtgoaclokjenpkaaDoorKeysP
import Derived.Test.YtgoaclokjenpkaaDoorXPrim
set_option linter.unusedVariables false
set_option linter.unusedSimpArgs false
set_option maxRecDepth 20000
namespace Go.Proofs.YtgoaclokjenpkaaDoorS
open Go.RowKit Go.Proofs

/-- strings.MaxLen is known to be some number. -/
def KMax (I : PH) : Prop := ∃ m t fz, I 0 = some (.cells (List.toArray [Value.int .i64 m]) t fz)
theorem KMax.le {I I' : PH} (h : KMax I) (l : I.le I') : KMax I' := let ⟨m, t, fz, e⟩ := h; ⟨m, t, fz, l _ _ e⟩
theorem q_ReplaceAll (l : List UInt8) (hl : l.length ≤ 1048576) : CtrQ Tryd.prog 32 [.string (bs l), .string (bs [0]), .string (bs [0, 255])] KMax (fun v => v = .string (bs (esc l))) := by
  intro G I R M w hk s
  obtain ⟨m, t, fz, hI⟩ := hk
  have hc : w.cell? ⟨0, 0, none⟩ = some (.int .i64 m) := by rw [cell_of (s.known hI)]; rfl
  have hcount : Lib.countB (bs l) (bs [0]) ≤ l.length + 1 := Lib.count_le l [0]
  have h2 : (bs [0, 255]).size = 2 := rfl
  refine (Tryd.strings_ReplaceAll (bs l) (bs [0]) (bs [0, 255]) m w ?_ hc (Nat.le_refl 1) ?_).mono ?_
  · show l.length < _; omega
  · show l.length + _ * _ ≤ _; rw [h2]; omega
  · rintro e w' ⟨rfl, hb⟩
    exact ⟨_, rfl, s.below hb, by simp [replaceAll_esc]⟩
theorem p_Compare (a b : List UInt8) : CtrP Tryd.prog 20 [.string (bs a), .string (bs b)] (fun v => v = .int .i64 (Lib.compareBytes a b)) := by
  intro G I R M w s
  refine (Tryd.strings_Compare (bs a) (bs b) w).mono ?_
  rintro e w' ⟨rfl, rfl⟩
  exact ⟨_, rfl, s, rfl⟩
def KIt.val : KIt → Value
  | .nil => .nilIface
  | .no => .iface 4 (.bool false)
  | .yes => .iface 4 (.bool true)
  | .int n => .iface 2 (.int .i64 n)
  | .uint n => .iface 22 (.int .u64 (n : Int))
  | .text l => .iface 9 (.string (bs l))
def KItem.val (i : KItem) : Value := if i.down then .iface 41 (.agg (List.toArray [i.x.val])) else i.x.val

theorem keys_turned (l : List UInt8) (hl : l.length ≤ 4611686018427387904) : CtrP Tryd.prog 21 [.string (bs l)] (fun v => v = .string (bs (turn l))) := by
  refine CtrP.of fun I => ?_
  refine ctr_of Tryd.func21 rfl (n := 23) rfl rfl ?_
  intro G R
  simp only [argL]
  refine gc_seq ?_
  refine gc_region ?_
  refine gl_y rfl (y_assign rfl) ?_
  refine gl_nil ?_
  refine gq_then' ?_
  refine gc_seq ?_
  refine gc_region ?_
  refine gl_y rfl (y_move rfl) ?_
  refine gl_ef (ef_tobytes Tryd.underlying9 Tryd.underlying39 Tryd.underlying5 rfl rfl) ?_
  rintro _ _ _ ⟨b6, c6, j6, rfl, rfl, rfl⟩
  refine gl_y rfl (y_assign rfl) ?_
  refine gl_nil ?_
  refine gq_then' ?_
  refine gc_seq ?_
  refine gc_seq ?_
  refine gc_region ?_
  refine gl_y rfl (y_move rfl) ?_
  refine gl_y rfl (y_len Tryd.underlying39 rfl) ?_
  refine gl_y rfl (y_move rfl) ?_
  refine gl_nil ?_
  refine gq_then' ?_
  refine gc_block ?_
  refine gc_loopW (α := Nat) [10, 11, 4, 12, 13, 14, 15, 16, 17, 18, 19, 20, 9] (fun (i : Nat) => [(9, .int .i64 (i : Int))]) (fun (i : Nat) => [cl b6 5 (u8s (turn (l.take i) ++ l.drop i) ++ j6)]) (fun (i : Nat) => i ≤ l.length) (fun (i : Nat) => l.length - i) 0 ?_ perm_same ?_ ?_
  · exact Nat.zero_le _
  · exact ⟨rfl, trivial⟩
  · rintro i hi
    refine gc_seq ?_
    refine gc_region ?_
    refine gl_y rfl (y_lss rfl rfl) ?_
    refine gl_nil ?_
    refine gq_then' ?_
    refine gc_seq ?_
    refine gc_if rfl (fun h10 => ?_) (fun h10 => ?_)
    · have g10 := h10
      try (replace g10 := of_decide_eq_true g10)
      first
      | exact absurd h10 (by decide)
      | (exfalso; omega)
      | skip
        refine gc_skip ?_
        refine gq_then' ?_
        refine gc_seq ?_
        refine gc_block ?_
        refine gc_seq ?_
        refine gc_region ?_
        refine gl_y rfl (y_move rfl) ?_
        refine gl_y rfl (y_assign rfl) ?_
        refine gl_nil ?_
        refine gq_then' ?_
        refine gc_region ?_
        refine gl_y rfl (y_move rfl) ?_
        refine gl_y rfl (y_move rfl) ?_
        refine gl_y rfl (y_move rfl) ?_
        refine gl_y rfl (y_move rfl) ?_
        refine gl_y rfl (y_iaddr Tryd.underlying39 sz_5 rfl rfl (by omega) (by first | omega | (simp only [List.length_append, List.length_cons, List.length_nil, List.length_take, List.length_drop, List.length_map, List.length_replicate, List.length_set, u8s_length, fx_length, fixed_length, turn_length]; omega))) ?_
        refine gl_y rfl (y_load ag_5 rfl (blk_own (i := 0) rfl) (turn_at l j6 i (by omega))) ?_
        refine gl_y rfl (y_inv rfl (inv_u8 _)) ?_
        refine gl_y rfl (y_iaddr Tryd.underlying39 sz_5 rfl rfl (by omega) (by first | omega | (simp only [List.length_append, List.length_cons, List.length_nil, List.length_take, List.length_drop, List.length_map, List.length_replicate, List.length_set, u8s_length, fx_length, fixed_length, turn_length]; omega))) ?_
        refine gl_ef (ef_store sz_5 rfl rfl rfl (i := 0) rfl (by first | rfl | exact blt_of (by first | omega | (simp only [List.length_append, List.length_cons, List.length_nil, List.length_take, List.length_drop, List.length_map, List.length_replicate, List.length_set, u8s_length, fx_length, fixed_length, turn_length]; omega)))) ?_
        rintro _ _ _ ⟨rfl, rfl, rfl⟩
        refine gl_nil ?_
        refine gq_in_normal ?_
        refine gq_then' ?_
        refine gc_region ?_
        first | refine gl_y rfl (y_add rfl rfl (wr_i64 (by omega) (by omega))) ?_ | refine gl_y rfl (y_add rfl rfl rfl) ?_
        refine gl_y rfl (y_move rfl) ?_
        refine gl_nil ?_
        refine gq_M (M2 := [cl b6 5 (u8s (turn (l.take (i + 1)) ++ l.drop (i + 1)) ++ j6)]) (congrArg (fun l => [cl b6 5 l]) (turn_step l j6 i (by omega))) ?_
        refine gq_roundW (i + 1) ?_ ?_ perm_same rfl (by repeat (first | exact Ext.refl | refine Ext.cons rfl ?_)) ?_
        · omega
        · (show l.length - (i + 1) < l.length - i); omega
        · exact ⟨rfl, trivial⟩
    · have g10 := h10
      try (replace g10 := of_decide_eq_false g10)
      first
      | exact absurd h10 (by decide)
      | (exfalso; omega)
      | skip
        refine gc_exit ?_
        refine gq_pass_exit ?_
        refine gq_pass_exit ?_
        refine gq_in_exit ?_
        refine gq_then' ?_
        refine gc_seq ?_
        refine gc_region ?_
        refine gl_y rfl (y_move rfl) ?_
        obtain rfl : i = l.length := by omega
        rw [List.take_length, List.drop_length, List.append_nil]
        refine gl_y rfl (y_tostr (bytes := turn l) Tryd.underlying39 Tryd.underlying5 Tryd.underlying9 rfl (blk_own (i := 0) rfl) (by simp [turn]) u8s_get) ?_
        refine gl_y rfl (y_assign rfl) ?_
        refine gl_nil ?_
        refine gq_then' ?_
        refine gc_ret ?_
        refine gq_r1 rfl rfl perm_all ?_
        exact rfl
theorem one_nil  : CtrQ Tryd.prog 24 [KIt.val .nil] (KMax) (fun v => v = .tuple #[.string (bs (KIt.enc .nil)), .bool true]) := by
  refine CtrQ.of fun I hK => ?_
  refine ctr_of Tryd.func24 rfl (n := 48) rfl rfl ?_
  intro G R
  simp only [argL]
  refine gc_seq ?_
  refine gc_region ?_
  refine gl_y rfl (y_assign rfl) ?_
  refine gl_y rfl (y_assign rfl) ?_
  refine gl_nil ?_
  refine gq_then' ?_
  refine gc_seq ?_
  refine gc_seq ?_
  refine gc_region ?_
  refine gl_y rfl (y_move rfl) ?_
  refine gl_nil ?_
  refine gq_then' ?_
  refine gc_block ?_
  refine gc_seq ?_
  refine gc_region ?_
  refine gl_y rfl (y_eqnil Tryd.underlying20 rfl) ?_
  refine gl_nil ?_
  refine gq_then' ?_
  refine gc_t rfl rfl ?_
  refine gc_seq ?_
  refine gc_region ?_
  refine gl_y rfl (y_assign rfl) ?_
  refine gl_nil ?_
  refine gq_then' ?_
  refine gc_seq ?_
  refine gc_region ?_
  refine gl_ef (ef_buildSlice Tryd.underlying39 sz_5 zr_5 rfl rfl rfl (cs := [_]) (zl := [_]) rfl rfl rfl rfl) ?_
  rintro _ _ _ ⟨b11, rfl, rfl, rfl⟩
  refine gl_y rfl (y_tostr (bytes := [16]) Tryd.underlying39 Tryd.underlying5 Tryd.underlying9 rfl (blk_own (i := 0) rfl) rfl (u8s_get0 (l := [16]))) ?_
  refine gl_y rfl (y_assign rfl) ?_
  refine gl_y rfl (y_assign rfl) ?_
  refine gl_nil ?_
  refine gq_then' ?_
  refine gc_ret ?_
  refine gq_in_ret ?_
  refine gq_pass_ret ?_
  refine gq_r2 rfl rfl rfl perm_all ?_
  exact rfl
theorem one_no  : CtrQ Tryd.prog 24 [KIt.val .no] (KMax) (fun v => v = .tuple #[.string (bs (KIt.enc .no)), .bool true]) := by
  refine CtrQ.of fun I hK => ?_
  refine ctr_of Tryd.func24 rfl (n := 48) rfl rfl ?_
  intro G R
  simp only [argL]
  refine gc_seq ?_
  refine gc_region ?_
  refine gl_y rfl (y_assign rfl) ?_
  refine gl_y rfl (y_assign rfl) ?_
  refine gl_nil ?_
  refine gq_then' ?_
  refine gc_seq ?_
  refine gc_seq ?_
  refine gc_region ?_
  refine gl_y rfl (y_move rfl) ?_
  refine gl_nil ?_
  refine gq_then' ?_
  refine gc_block ?_
  refine gc_seq ?_
  refine gc_region ?_
  refine gl_y rfl (y_eqnil_no Tryd.underlying20 rfl) ?_
  refine gl_nil ?_
  refine gq_then' ?_
  refine gc_f rfl rfl ?_
  refine gc_seq ?_
  refine gc_region ?_
  refine gl_y rfl (y_assert_yes Tryd.underlying4 rfl rfl) ?_
  refine gl_y rfl (y_extract rfl rfl) ?_
  refine gl_y rfl (y_extract rfl rfl) ?_
  refine gl_nil ?_
  refine gq_then' ?_
  refine gc_t rfl rfl ?_
  refine gc_seq ?_
  refine gc_region ?_
  refine gl_y rfl (y_assign rfl) ?_
  refine gl_nil ?_
  refine gq_then' ?_
  refine gc_seq ?_
  refine gc_seq ?_
  refine gc_region ?_
  refine gl_y rfl (y_move rfl) ?_
  refine gl_nil ?_
  refine gq_then' ?_
  refine gc_if rfl (fun h16 => ?_) (fun h16 => ?_)
  · have g16 := h16
    try (replace g16 := of_decide_eq_true g16)
    first
    | exact absurd h16 (by decide)
    | (exfalso; omega)
    | skip
      refine gc_seq ?_
      refine gc_region ?_
      refine gl_ef (ef_buildSlice Tryd.underlying39 sz_5 zr_5 rfl rfl rfl (cs := [_]) (zl := [_]) rfl rfl rfl rfl) ?_
      rintro _ _ _ ⟨b17, rfl, rfl, rfl⟩
      refine gl_y rfl (y_tostr (bytes := [33]) Tryd.underlying39 Tryd.underlying5 Tryd.underlying9 rfl (blk_own (i := 0) rfl) rfl (u8s_get0 (l := [33]))) ?_
      refine gl_y rfl (y_assign rfl) ?_
      refine gl_y rfl (y_assign rfl) ?_
      refine gl_nil ?_
      refine gq_then' ?_
      refine gc_ret ?_
      refine gq_pass_ret ?_
      refine gq_in_ret ?_
      refine gq_pass_ret ?_
      refine gq_r2 rfl rfl rfl perm_all ?_
      exact rfl
  · have g16 := h16
    try (replace g16 := of_decide_eq_false g16)
    first
    | exact absurd h16 (by decide)
    | (exfalso; omega)
    | skip
      refine gc_skip ?_
      refine gq_then' ?_
      refine gc_seq ?_
      refine gc_region ?_
      refine gl_ef (ef_buildSlice Tryd.underlying39 sz_5 zr_5 rfl rfl rfl (cs := [_]) (zl := [_]) rfl rfl rfl rfl) ?_
      rintro _ _ _ ⟨b19, rfl, rfl, rfl⟩
      refine gl_y rfl (y_tostr (bytes := [32]) Tryd.underlying39 Tryd.underlying5 Tryd.underlying9 rfl (blk_own (i := 0) rfl) rfl (u8s_get0 (l := [32]))) ?_
      refine gl_y rfl (y_assign rfl) ?_
      refine gl_y rfl (y_assign rfl) ?_
      refine gl_nil ?_
      refine gq_then' ?_
      refine gc_ret ?_
      refine gq_in_ret ?_
      refine gq_pass_ret ?_
      refine gq_r2 rfl rfl rfl perm_all ?_
      exact rfl
theorem one_yes  : CtrQ Tryd.prog 24 [KIt.val .yes] (KMax) (fun v => v = .tuple #[.string (bs (KIt.enc .yes)), .bool true]) := by
  refine CtrQ.of fun I hK => ?_
  refine ctr_of Tryd.func24 rfl (n := 48) rfl rfl ?_
  intro G R
  simp only [argL]
  refine gc_seq ?_
  refine gc_region ?_
  refine gl_y rfl (y_assign rfl) ?_
  refine gl_y rfl (y_assign rfl) ?_
  refine gl_nil ?_
  refine gq_then' ?_
  refine gc_seq ?_
  refine gc_seq ?_
  refine gc_region ?_
  refine gl_y rfl (y_move rfl) ?_
  refine gl_nil ?_
  refine gq_then' ?_
  refine gc_block ?_
  refine gc_seq ?_
  refine gc_region ?_
  refine gl_y rfl (y_eqnil_no Tryd.underlying20 rfl) ?_
  refine gl_nil ?_
  refine gq_then' ?_
  refine gc_f rfl rfl ?_
  refine gc_seq ?_
  refine gc_region ?_
  refine gl_y rfl (y_assert_yes Tryd.underlying4 rfl rfl) ?_
  refine gl_y rfl (y_extract rfl rfl) ?_
  refine gl_y rfl (y_extract rfl rfl) ?_
  refine gl_nil ?_
  refine gq_then' ?_
  refine gc_t rfl rfl ?_
  refine gc_seq ?_
  refine gc_region ?_
  refine gl_y rfl (y_assign rfl) ?_
  refine gl_nil ?_
  refine gq_then' ?_
  refine gc_seq ?_
  refine gc_seq ?_
  refine gc_region ?_
  refine gl_y rfl (y_move rfl) ?_
  refine gl_nil ?_
  refine gq_then' ?_
  refine gc_if rfl (fun h16 => ?_) (fun h16 => ?_)
  · have g16 := h16
    try (replace g16 := of_decide_eq_true g16)
    first
    | exact absurd h16 (by decide)
    | (exfalso; omega)
    | skip
      refine gc_seq ?_
      refine gc_region ?_
      refine gl_ef (ef_buildSlice Tryd.underlying39 sz_5 zr_5 rfl rfl rfl (cs := [_]) (zl := [_]) rfl rfl rfl rfl) ?_
      rintro _ _ _ ⟨b17, rfl, rfl, rfl⟩
      refine gl_y rfl (y_tostr (bytes := [33]) Tryd.underlying39 Tryd.underlying5 Tryd.underlying9 rfl (blk_own (i := 0) rfl) rfl (u8s_get0 (l := [33]))) ?_
      refine gl_y rfl (y_assign rfl) ?_
      refine gl_y rfl (y_assign rfl) ?_
      refine gl_nil ?_
      refine gq_then' ?_
      refine gc_ret ?_
      refine gq_pass_ret ?_
      refine gq_in_ret ?_
      refine gq_pass_ret ?_
      refine gq_r2 rfl rfl rfl perm_all ?_
      exact rfl
  · have g16 := h16
    try (replace g16 := of_decide_eq_false g16)
    first
    | exact absurd h16 (by decide)
    | (exfalso; omega)
    | skip
      refine gc_skip ?_
      refine gq_then' ?_
      refine gc_seq ?_
      refine gc_region ?_
      refine gl_ef (ef_buildSlice Tryd.underlying39 sz_5 zr_5 rfl rfl rfl (cs := [_]) (zl := [_]) rfl rfl rfl rfl) ?_
      rintro _ _ _ ⟨b19, rfl, rfl, rfl⟩
      refine gl_y rfl (y_tostr (bytes := [32]) Tryd.underlying39 Tryd.underlying5 Tryd.underlying9 rfl (blk_own (i := 0) rfl) rfl (u8s_get0 (l := [32]))) ?_
      refine gl_y rfl (y_assign rfl) ?_
      refine gl_y rfl (y_assign rfl) ?_
      refine gl_nil ?_
      refine gq_then' ?_
      refine gc_ret ?_
      refine gq_in_ret ?_
      refine gq_pass_ret ?_
      refine gq_r2 rfl rfl rfl perm_all ?_
      exact rfl
theorem one_int (n : Int) (hn : KIt.ok (.int n)) : CtrQ Tryd.prog 24 [KIt.val (.int n)] (KMax) (fun v => v = .tuple #[.string (bs (KIt.enc (.int n))), .bool true]) := by
  refine CtrQ.of fun I hK => ?_
  simp only [KIt.ok] at hn
  refine ctr_of Tryd.func24 rfl (n := 48) rfl rfl ?_
  intro G R
  simp only [argL]
  refine gc_seq ?_
  refine gc_region ?_
  refine gl_y rfl (y_assign rfl) ?_
  refine gl_y rfl (y_assign rfl) ?_
  refine gl_nil ?_
  refine gq_then' ?_
  refine gc_seq ?_
  refine gc_seq ?_
  refine gc_region ?_
  refine gl_y rfl (y_move rfl) ?_
  refine gl_nil ?_
  refine gq_then' ?_
  refine gc_block ?_
  refine gc_seq ?_
  refine gc_region ?_
  refine gl_y rfl (y_eqnil_no Tryd.underlying20 rfl) ?_
  refine gl_nil ?_
  refine gq_then' ?_
  refine gc_f rfl rfl ?_
  refine gc_seq ?_
  refine gc_region ?_
  refine gl_y rfl (y_asno Tryd.underlying4 rfl zr_4 (by first | decide | omega) rfl) ?_
  refine gl_y rfl (y_extract rfl rfl) ?_
  refine gl_y rfl (y_extract rfl rfl) ?_
  refine gl_nil ?_
  refine gq_then' ?_
  refine gc_f rfl rfl ?_
  refine gc_seq ?_
  refine gc_region ?_
  refine gl_y rfl (y_assert_yes Tryd.underlying2 rfl rfl) ?_
  refine gl_y rfl (y_extract rfl rfl) ?_
  refine gl_y rfl (y_extract rfl rfl) ?_
  refine gl_nil ?_
  refine gq_then' ?_
  refine gc_t rfl rfl ?_
  refine gc_seq ?_
  refine gc_region ?_
  refine gl_y rfl (y_assign rfl) ?_
  refine gl_nil ?_
  refine gq_then' ?_
  refine gc_seq ?_
  refine gc_region_draw (N := 9) [] rfl follows_mixed (by repeat (first | exact panicOk_body | refine panicOk_then ?_ | refine panicOk_in ?_)) (by kernel_rfl) ?_ ?_
  · trivial
  · skip
    refine ga_y 2 rfl (by kernel_rfl) (by kernel_rfl) rfl (y_move rfl) ?_
    refine ga_y 3 rfl (by kernel_rfl) (by kernel_rfl) rfl (y_conv Tryd.underlying2 Tryd.underlying22 rfl rfl) ?_
    refine ga_y 4 rfl (by kernel_rfl) (by kernel_rfl) rfl (y_xor rfl rfl (sign_int n hn.1 hn.2)) ?_
    refine ga_all2 (i := 0) (j := 5) (by kernel_rfl) ?_ ?_
    · skip
      refine gb_ef rfl (ef_buildSlice Tryd.underlying39 sz_5 zr_5 rfl rfl rfl (cs := [_]) (zl := [_]) rfl rfl rfl rfl) ?_
      rintro _ _ _ ⟨b24, rfl, rfl, rfl⟩
      refine ⟨sat_S (bl := []) trivial, ?_⟩
      refine ga_all2 (i := 1) (j := 5) (by kernel_rfl) ?_ ?_
      · skip
        refine gb_y rfl rfl (y_tostr (bytes := [48]) Tryd.underlying39 Tryd.underlying5 Tryd.underlying9 rfl (blk_own (i := 0) rfl) rfl (u8s_get0 (l := [48]))) ?_
        refine ga_all1 (i := 5) (by kernel_rfl) ?_
        · skip
          refine gb_ef rfl (ef_callp en_31 rfl (prim_Fixed _ 8 _ (by first | omega | (simp only [List.length_append, List.length_cons, List.length_nil, List.length_take, List.length_drop, List.length_map, List.length_replicate, List.length_set, u8s_length, fx_length, fixed_length, turn_length]; omega)) (by first | omega | (simp only [List.length_append, List.length_cons, List.length_nil, List.length_take, List.length_drop, List.length_map, List.length_replicate, List.length_set, u8s_length, fx_length, fixed_length, turn_length]; omega)) (by first | omega | (simp only [List.length_append, List.length_cons, List.length_nil, List.length_take, List.length_drop, List.length_map, List.length_replicate, List.length_set, u8s_length, fx_length, fixed_length, turn_length]; omega))) rfl) ?_
          rintro _ _ _ ⟨v29, rfl, rfl, rfl, rfl⟩
          refine ⟨sat_S (bl := []) trivial, ?_⟩
          refine ga_y 6 rfl (by kernel_rfl) (by kernel_rfl) rfl (y_sadd rfl rfl (by first | omega | (simp only [List.length_append, List.length_cons, List.length_nil, List.length_take, List.length_drop, List.length_map, List.length_replicate, List.length_set, u8s_length, fx_length, fixed_length, turn_length]; omega))) ?_
          refine ga_y 7 rfl (by kernel_rfl) (by kernel_rfl) rfl (y_assign rfl) ?_
          refine ga_y 8 rfl (by kernel_rfl) (by kernel_rfl) rfl (y_assign rfl) ?_
          refine ga_done (by kernel_rfl) ?_
          refine gq_then' ?_
          refine gc_ret ?_
          refine gq_in_ret ?_
          refine gq_pass_ret ?_
          refine gq_r2 rfl rfl rfl perm_all ?_
          exact rfl
      · skip
        refine gb_ef rfl (ef_callp en_31 rfl (prim_Fixed _ 8 _ (by first | omega | (simp only [List.length_append, List.length_cons, List.length_nil, List.length_take, List.length_drop, List.length_map, List.length_replicate, List.length_set, u8s_length, fx_length, fixed_length, turn_length]; omega)) (by first | omega | (simp only [List.length_append, List.length_cons, List.length_nil, List.length_take, List.length_drop, List.length_map, List.length_replicate, List.length_set, u8s_length, fx_length, fixed_length, turn_length]; omega)) (by first | omega | (simp only [List.length_append, List.length_cons, List.length_nil, List.length_take, List.length_drop, List.length_map, List.length_replicate, List.length_set, u8s_length, fx_length, fixed_length, turn_length]; omega))) rfl) ?_
        rintro _ _ _ ⟨v29, rfl, rfl, rfl, rfl⟩
        refine ⟨sat_S (bl := []) trivial, ?_⟩
        refine ga_all1 (i := 1) (by kernel_rfl) ?_
        · skip
          refine gb_y rfl rfl (y_tostr (bytes := [48]) Tryd.underlying39 Tryd.underlying5 Tryd.underlying9 rfl (blk_own (i := 0) rfl) rfl (u8s_get0 (l := [48]))) ?_
          refine ga_y 6 rfl (by kernel_rfl) (by kernel_rfl) rfl (y_sadd rfl rfl (by first | omega | (simp only [List.length_append, List.length_cons, List.length_nil, List.length_take, List.length_drop, List.length_map, List.length_replicate, List.length_set, u8s_length, fx_length, fixed_length, turn_length]; omega))) ?_
          refine ga_y 7 rfl (by kernel_rfl) (by kernel_rfl) rfl (y_assign rfl) ?_
          refine ga_y 8 rfl (by kernel_rfl) (by kernel_rfl) rfl (y_assign rfl) ?_
          refine ga_done (by kernel_rfl) ?_
          refine gq_then' ?_
          refine gc_ret ?_
          refine gq_in_ret ?_
          refine gq_pass_ret ?_
          refine gq_r2 rfl rfl rfl perm_all ?_
          exact rfl
    · skip
      refine gb_ef rfl (ef_callp en_31 rfl (prim_Fixed _ 8 _ (by first | omega | (simp only [List.length_append, List.length_cons, List.length_nil, List.length_take, List.length_drop, List.length_map, List.length_replicate, List.length_set, u8s_length, fx_length, fixed_length, turn_length]; omega)) (by first | omega | (simp only [List.length_append, List.length_cons, List.length_nil, List.length_take, List.length_drop, List.length_map, List.length_replicate, List.length_set, u8s_length, fx_length, fixed_length, turn_length]; omega)) (by first | omega | (simp only [List.length_append, List.length_cons, List.length_nil, List.length_take, List.length_drop, List.length_map, List.length_replicate, List.length_set, u8s_length, fx_length, fixed_length, turn_length]; omega))) rfl) ?_
      rintro _ _ _ ⟨v29, rfl, rfl, rfl, rfl⟩
      refine ⟨sat_S (bl := []) trivial, ?_⟩
      refine ga_all1 (i := 0) (by kernel_rfl) ?_
      · skip
        refine gb_ef rfl (ef_buildSlice Tryd.underlying39 sz_5 zr_5 rfl rfl rfl (cs := [_]) (zl := [_]) rfl rfl rfl rfl) ?_
        rintro _ _ _ ⟨b24, rfl, rfl, rfl⟩
        refine ⟨sat_S (bl := []) trivial, ?_⟩
        refine ga_all1 (i := 1) (by kernel_rfl) ?_
        · skip
          refine gb_y rfl rfl (y_tostr (bytes := [48]) Tryd.underlying39 Tryd.underlying5 Tryd.underlying9 rfl (blk_own (i := 0) rfl) rfl (u8s_get0 (l := [48]))) ?_
          refine ga_y 6 rfl (by kernel_rfl) (by kernel_rfl) rfl (y_sadd rfl rfl (by first | omega | (simp only [List.length_append, List.length_cons, List.length_nil, List.length_take, List.length_drop, List.length_map, List.length_replicate, List.length_set, u8s_length, fx_length, fixed_length, turn_length]; omega))) ?_
          refine ga_y 7 rfl (by kernel_rfl) (by kernel_rfl) rfl (y_assign rfl) ?_
          refine ga_y 8 rfl (by kernel_rfl) (by kernel_rfl) rfl (y_assign rfl) ?_
          refine ga_done (by kernel_rfl) ?_
          refine gq_then' ?_
          refine gc_ret ?_
          refine gq_in_ret ?_
          refine gq_pass_ret ?_
          refine gq_r2 rfl rfl rfl perm_all ?_
          exact rfl
theorem one_uint (n : Nat) (hn : KIt.ok (.uint n)) : CtrQ Tryd.prog 24 [KIt.val (.uint n)] (KMax) (fun v => v = .tuple #[.string (bs (KIt.enc (.uint n))), .bool true]) := by
  refine CtrQ.of fun I hK => ?_
  simp only [KIt.ok] at hn
  refine ctr_of Tryd.func24 rfl (n := 48) rfl rfl ?_
  intro G R
  simp only [argL]
  refine gc_seq ?_
  refine gc_region ?_
  refine gl_y rfl (y_assign rfl) ?_
  refine gl_y rfl (y_assign rfl) ?_
  refine gl_nil ?_
  refine gq_then' ?_
  refine gc_seq ?_
  refine gc_seq ?_
  refine gc_region ?_
  refine gl_y rfl (y_move rfl) ?_
  refine gl_nil ?_
  refine gq_then' ?_
  refine gc_block ?_
  refine gc_seq ?_
  refine gc_region ?_
  refine gl_y rfl (y_eqnil_no Tryd.underlying20 rfl) ?_
  refine gl_nil ?_
  refine gq_then' ?_
  refine gc_f rfl rfl ?_
  refine gc_seq ?_
  refine gc_region ?_
  refine gl_y rfl (y_asno Tryd.underlying4 rfl zr_4 (by first | decide | omega) rfl) ?_
  refine gl_y rfl (y_extract rfl rfl) ?_
  refine gl_y rfl (y_extract rfl rfl) ?_
  refine gl_nil ?_
  refine gq_then' ?_
  refine gc_f rfl rfl ?_
  refine gc_seq ?_
  refine gc_region ?_
  refine gl_y rfl (y_asno Tryd.underlying2 rfl zr_2 (by first | decide | omega) rfl) ?_
  refine gl_y rfl (y_extract rfl rfl) ?_
  refine gl_y rfl (y_extract rfl rfl) ?_
  refine gl_nil ?_
  refine gq_then' ?_
  refine gc_f rfl rfl ?_
  refine gc_seq ?_
  refine gc_region ?_
  refine gl_y rfl (y_assert_yes Tryd.underlying22 rfl rfl) ?_
  refine gl_y rfl (y_extract rfl rfl) ?_
  refine gl_y rfl (y_extract rfl rfl) ?_
  refine gl_nil ?_
  refine gq_then' ?_
  refine gc_t rfl rfl ?_
  refine gc_seq ?_
  refine gc_region ?_
  refine gl_y rfl (y_assign rfl) ?_
  refine gl_nil ?_
  refine gq_then' ?_
  refine gc_seq ?_
  refine gc_region_draw (N := 7) [] rfl follows_mixed (by repeat (first | exact panicOk_body | refine panicOk_then ?_ | refine panicOk_in ?_)) (by kernel_rfl) ?_ ?_
  · trivial
  · skip
    refine ga_y 2 rfl (by kernel_rfl) (by kernel_rfl) rfl (y_move rfl) ?_
    refine ga_all2 (i := 0) (j := 3) (by kernel_rfl) ?_ ?_
    · skip
      refine gb_ef rfl (ef_buildSlice Tryd.underlying39 sz_5 zr_5 rfl rfl rfl (cs := [_]) (zl := [_]) rfl rfl rfl rfl) ?_
      rintro _ _ _ ⟨b34, rfl, rfl, rfl⟩
      refine ⟨sat_S (bl := []) trivial, ?_⟩
      refine ga_all2 (i := 1) (j := 3) (by kernel_rfl) ?_ ?_
      · skip
        refine gb_y rfl rfl (y_tostr (bytes := [64]) Tryd.underlying39 Tryd.underlying5 Tryd.underlying9 rfl (blk_own (i := 0) rfl) rfl (u8s_get0 (l := [64]))) ?_
        refine ga_all1 (i := 3) (by kernel_rfl) ?_
        · skip
          refine gb_ef rfl (ef_callp en_31 rfl (prim_Fixed _ 8 _ (by first | omega | (simp only [List.length_append, List.length_cons, List.length_nil, List.length_take, List.length_drop, List.length_map, List.length_replicate, List.length_set, u8s_length, fx_length, fixed_length, turn_length]; omega)) (by first | omega | (simp only [List.length_append, List.length_cons, List.length_nil, List.length_take, List.length_drop, List.length_map, List.length_replicate, List.length_set, u8s_length, fx_length, fixed_length, turn_length]; omega)) (by first | omega | (simp only [List.length_append, List.length_cons, List.length_nil, List.length_take, List.length_drop, List.length_map, List.length_replicate, List.length_set, u8s_length, fx_length, fixed_length, turn_length]; omega))) rfl) ?_
          rintro _ _ _ ⟨v37, rfl, rfl, rfl, rfl⟩
          refine ⟨sat_S (bl := []) trivial, ?_⟩
          refine ga_y 4 rfl (by kernel_rfl) (by kernel_rfl) rfl (y_sadd rfl rfl (by first | omega | (simp only [List.length_append, List.length_cons, List.length_nil, List.length_take, List.length_drop, List.length_map, List.length_replicate, List.length_set, u8s_length, fx_length, fixed_length, turn_length]; omega))) ?_
          refine ga_y 5 rfl (by kernel_rfl) (by kernel_rfl) rfl (y_assign rfl) ?_
          refine ga_y 6 rfl (by kernel_rfl) (by kernel_rfl) rfl (y_assign rfl) ?_
          refine ga_done (by kernel_rfl) ?_
          refine gq_then' ?_
          refine gc_ret ?_
          refine gq_in_ret ?_
          refine gq_pass_ret ?_
          refine gq_r2 rfl rfl rfl perm_all ?_
          exact rfl
      · skip
        refine gb_ef rfl (ef_callp en_31 rfl (prim_Fixed _ 8 _ (by first | omega | (simp only [List.length_append, List.length_cons, List.length_nil, List.length_take, List.length_drop, List.length_map, List.length_replicate, List.length_set, u8s_length, fx_length, fixed_length, turn_length]; omega)) (by first | omega | (simp only [List.length_append, List.length_cons, List.length_nil, List.length_take, List.length_drop, List.length_map, List.length_replicate, List.length_set, u8s_length, fx_length, fixed_length, turn_length]; omega)) (by first | omega | (simp only [List.length_append, List.length_cons, List.length_nil, List.length_take, List.length_drop, List.length_map, List.length_replicate, List.length_set, u8s_length, fx_length, fixed_length, turn_length]; omega))) rfl) ?_
        rintro _ _ _ ⟨v37, rfl, rfl, rfl, rfl⟩
        refine ⟨sat_S (bl := []) trivial, ?_⟩
        refine ga_all1 (i := 1) (by kernel_rfl) ?_
        · skip
          refine gb_y rfl rfl (y_tostr (bytes := [64]) Tryd.underlying39 Tryd.underlying5 Tryd.underlying9 rfl (blk_own (i := 0) rfl) rfl (u8s_get0 (l := [64]))) ?_
          refine ga_y 4 rfl (by kernel_rfl) (by kernel_rfl) rfl (y_sadd rfl rfl (by first | omega | (simp only [List.length_append, List.length_cons, List.length_nil, List.length_take, List.length_drop, List.length_map, List.length_replicate, List.length_set, u8s_length, fx_length, fixed_length, turn_length]; omega))) ?_
          refine ga_y 5 rfl (by kernel_rfl) (by kernel_rfl) rfl (y_assign rfl) ?_
          refine ga_y 6 rfl (by kernel_rfl) (by kernel_rfl) rfl (y_assign rfl) ?_
          refine ga_done (by kernel_rfl) ?_
          refine gq_then' ?_
          refine gc_ret ?_
          refine gq_in_ret ?_
          refine gq_pass_ret ?_
          refine gq_r2 rfl rfl rfl perm_all ?_
          exact rfl
    · skip
      refine gb_ef rfl (ef_callp en_31 rfl (prim_Fixed _ 8 _ (by first | omega | (simp only [List.length_append, List.length_cons, List.length_nil, List.length_take, List.length_drop, List.length_map, List.length_replicate, List.length_set, u8s_length, fx_length, fixed_length, turn_length]; omega)) (by first | omega | (simp only [List.length_append, List.length_cons, List.length_nil, List.length_take, List.length_drop, List.length_map, List.length_replicate, List.length_set, u8s_length, fx_length, fixed_length, turn_length]; omega)) (by first | omega | (simp only [List.length_append, List.length_cons, List.length_nil, List.length_take, List.length_drop, List.length_map, List.length_replicate, List.length_set, u8s_length, fx_length, fixed_length, turn_length]; omega))) rfl) ?_
      rintro _ _ _ ⟨v37, rfl, rfl, rfl, rfl⟩
      refine ⟨sat_S (bl := []) trivial, ?_⟩
      refine ga_all1 (i := 0) (by kernel_rfl) ?_
      · skip
        refine gb_ef rfl (ef_buildSlice Tryd.underlying39 sz_5 zr_5 rfl rfl rfl (cs := [_]) (zl := [_]) rfl rfl rfl rfl) ?_
        rintro _ _ _ ⟨b34, rfl, rfl, rfl⟩
        refine ⟨sat_S (bl := []) trivial, ?_⟩
        refine ga_all1 (i := 1) (by kernel_rfl) ?_
        · skip
          refine gb_y rfl rfl (y_tostr (bytes := [64]) Tryd.underlying39 Tryd.underlying5 Tryd.underlying9 rfl (blk_own (i := 0) rfl) rfl (u8s_get0 (l := [64]))) ?_
          refine ga_y 4 rfl (by kernel_rfl) (by kernel_rfl) rfl (y_sadd rfl rfl (by first | omega | (simp only [List.length_append, List.length_cons, List.length_nil, List.length_take, List.length_drop, List.length_map, List.length_replicate, List.length_set, u8s_length, fx_length, fixed_length, turn_length]; omega))) ?_
          refine ga_y 5 rfl (by kernel_rfl) (by kernel_rfl) rfl (y_assign rfl) ?_
          refine ga_y 6 rfl (by kernel_rfl) (by kernel_rfl) rfl (y_assign rfl) ?_
          refine ga_done (by kernel_rfl) ?_
          refine gq_then' ?_
          refine gc_ret ?_
          refine gq_in_ret ?_
          refine gq_pass_ret ?_
          refine gq_r2 rfl rfl rfl perm_all ?_
          exact rfl
theorem one_text (l : List UInt8) (hn : KIt.ok (.text l)) : CtrQ Tryd.prog 24 [KIt.val (.text l)] (KMax) (fun v => v = .tuple #[.string (bs (KIt.enc (.text l))), .bool true]) := by
  refine CtrQ.of fun I hK => ?_
  simp only [KIt.ok] at hn
  have hE := (esc_length l).2
  refine ctr_of Tryd.func24 rfl (n := 48) rfl rfl ?_
  intro G R
  simp only [argL]
  refine gc_seq ?_
  refine gc_region ?_
  refine gl_y rfl (y_assign rfl) ?_
  refine gl_y rfl (y_assign rfl) ?_
  refine gl_nil ?_
  refine gq_then' ?_
  refine gc_seq ?_
  refine gc_seq ?_
  refine gc_region ?_
  refine gl_y rfl (y_move rfl) ?_
  refine gl_nil ?_
  refine gq_then' ?_
  refine gc_block ?_
  refine gc_seq ?_
  refine gc_region ?_
  refine gl_y rfl (y_eqnil_no Tryd.underlying20 rfl) ?_
  refine gl_nil ?_
  refine gq_then' ?_
  refine gc_f rfl rfl ?_
  refine gc_seq ?_
  refine gc_region ?_
  refine gl_y rfl (y_asno Tryd.underlying4 rfl zr_4 (by first | decide | omega) rfl) ?_
  refine gl_y rfl (y_extract rfl rfl) ?_
  refine gl_y rfl (y_extract rfl rfl) ?_
  refine gl_nil ?_
  refine gq_then' ?_
  refine gc_f rfl rfl ?_
  refine gc_seq ?_
  refine gc_region ?_
  refine gl_y rfl (y_asno Tryd.underlying2 rfl zr_2 (by first | decide | omega) rfl) ?_
  refine gl_y rfl (y_extract rfl rfl) ?_
  refine gl_y rfl (y_extract rfl rfl) ?_
  refine gl_nil ?_
  refine gq_then' ?_
  refine gc_f rfl rfl ?_
  refine gc_seq ?_
  refine gc_region ?_
  refine gl_y rfl (y_asno Tryd.underlying22 rfl zr_22 (by first | decide | omega) rfl) ?_
  refine gl_y rfl (y_extract rfl rfl) ?_
  refine gl_y rfl (y_extract rfl rfl) ?_
  refine gl_nil ?_
  refine gq_then' ?_
  refine gc_f rfl rfl ?_
  refine gc_seq ?_
  refine gc_region ?_
  refine gl_y rfl (y_assert_yes Tryd.underlying9 rfl rfl) ?_
  refine gl_y rfl (y_extract rfl rfl) ?_
  refine gl_y rfl (y_extract rfl rfl) ?_
  refine gl_nil ?_
  refine gq_then' ?_
  refine gc_t rfl rfl ?_
  refine gc_seq ?_
  refine gc_region ?_
  refine gl_y rfl (y_assign rfl) ?_
  refine gl_nil ?_
  refine gq_then' ?_
  refine gc_seq ?_
  refine gc_region_draw (N := 8) [] rfl follows_mixed (by repeat (first | exact panicOk_body | refine panicOk_then ?_ | refine panicOk_in ?_)) (by kernel_rfl) ?_ ?_
  · trivial
  · skip
    refine ga_y 2 rfl (by kernel_rfl) (by kernel_rfl) rfl (y_move rfl) ?_
    refine ga_all2 (i := 0) (j := 3) (by kernel_rfl) ?_ ?_
    · skip
      refine gb_ef rfl (ef_buildSlice Tryd.underlying39 sz_5 zr_5 rfl rfl rfl (cs := [_]) (zl := [_]) rfl rfl rfl rfl) ?_
      rintro _ _ _ ⟨b42, rfl, rfl, rfl⟩
      refine ⟨sat_S (bl := []) trivial, ?_⟩
      refine ga_all2 (i := 1) (j := 3) (by kernel_rfl) ?_ ?_
      · skip
        refine gb_y rfl rfl (y_tostr (bytes := [80]) Tryd.underlying39 Tryd.underlying5 Tryd.underlying9 rfl (blk_own (i := 0) rfl) rfl (u8s_get0 (l := [80]))) ?_
        refine ga_all1 (i := 3) (by kernel_rfl) ?_
        · skip
          refine gb_ef rfl (ef_callq en_32 rfl (q_ReplaceAll l (by first | omega | (simp only [List.length_append, List.length_cons, List.length_nil, List.length_take, List.length_drop, List.length_map, List.length_replicate, List.length_set, u8s_length, fx_length, fixed_length, turn_length]; omega))) perm_all (fun _ _ _ _ h => hK.le h) rfl) ?_
          rintro _ _ _ ⟨v45, rfl, rfl, rfl, rfl⟩
          refine ⟨sat_S (bl := []) trivial, ?_⟩
          refine ga_y 4 rfl (by kernel_rfl) (by kernel_rfl) rfl (y_sadd rfl rfl (by first | omega | (simp only [List.length_append, List.length_cons, List.length_nil, List.length_take, List.length_drop, List.length_map, List.length_replicate, List.length_set, u8s_length, fx_length, fixed_length, turn_length]; omega))) ?_
          refine ga_y 5 rfl (by kernel_rfl) (by kernel_rfl) rfl (y_sadd rfl rfl (by first | omega | (simp only [List.length_append, List.length_cons, List.length_nil, List.length_take, List.length_drop, List.length_map, List.length_replicate, List.length_set, u8s_length, fx_length, fixed_length, turn_length]; omega))) ?_
          refine ga_y 6 rfl (by kernel_rfl) (by kernel_rfl) rfl (y_assign rfl) ?_
          refine ga_y 7 rfl (by kernel_rfl) (by kernel_rfl) rfl (y_assign rfl) ?_
          refine ga_done (by kernel_rfl) ?_
          refine gq_then' ?_
          refine gc_ret ?_
          refine gq_in_ret ?_
          refine gq_pass_ret ?_
          refine gq_r2 rfl rfl rfl perm_all ?_
          exact rfl
      · skip
        refine gb_ef rfl (ef_callq en_32 rfl (q_ReplaceAll l (by first | omega | (simp only [List.length_append, List.length_cons, List.length_nil, List.length_take, List.length_drop, List.length_map, List.length_replicate, List.length_set, u8s_length, fx_length, fixed_length, turn_length]; omega))) perm_all (fun _ _ _ _ h => hK.le h) rfl) ?_
        rintro _ _ _ ⟨v45, rfl, rfl, rfl, rfl⟩
        refine ⟨sat_S (bl := []) trivial, ?_⟩
        refine ga_all1 (i := 1) (by kernel_rfl) ?_
        · skip
          refine gb_y rfl rfl (y_tostr (bytes := [80]) Tryd.underlying39 Tryd.underlying5 Tryd.underlying9 rfl (blk_own (i := 0) rfl) rfl (u8s_get0 (l := [80]))) ?_
          refine ga_y 4 rfl (by kernel_rfl) (by kernel_rfl) rfl (y_sadd rfl rfl (by first | omega | (simp only [List.length_append, List.length_cons, List.length_nil, List.length_take, List.length_drop, List.length_map, List.length_replicate, List.length_set, u8s_length, fx_length, fixed_length, turn_length]; omega))) ?_
          refine ga_y 5 rfl (by kernel_rfl) (by kernel_rfl) rfl (y_sadd rfl rfl (by first | omega | (simp only [List.length_append, List.length_cons, List.length_nil, List.length_take, List.length_drop, List.length_map, List.length_replicate, List.length_set, u8s_length, fx_length, fixed_length, turn_length]; omega))) ?_
          refine ga_y 6 rfl (by kernel_rfl) (by kernel_rfl) rfl (y_assign rfl) ?_
          refine ga_y 7 rfl (by kernel_rfl) (by kernel_rfl) rfl (y_assign rfl) ?_
          refine ga_done (by kernel_rfl) ?_
          refine gq_then' ?_
          refine gc_ret ?_
          refine gq_in_ret ?_
          refine gq_pass_ret ?_
          refine gq_r2 rfl rfl rfl perm_all ?_
          exact rfl
    · skip
      refine gb_ef rfl (ef_callq en_32 rfl (q_ReplaceAll l (by first | omega | (simp only [List.length_append, List.length_cons, List.length_nil, List.length_take, List.length_drop, List.length_map, List.length_replicate, List.length_set, u8s_length, fx_length, fixed_length, turn_length]; omega))) perm_all (fun _ _ _ _ h => hK.le h) rfl) ?_
      rintro _ _ _ ⟨v45, rfl, rfl, rfl, rfl⟩
      refine ⟨sat_S (bl := []) trivial, ?_⟩
      refine ga_all1 (i := 0) (by kernel_rfl) ?_
      · skip
        refine gb_ef rfl (ef_buildSlice Tryd.underlying39 sz_5 zr_5 rfl rfl rfl (cs := [_]) (zl := [_]) rfl rfl rfl rfl) ?_
        rintro _ _ _ ⟨b42, rfl, rfl, rfl⟩
        refine ⟨sat_S (bl := []) trivial, ?_⟩
        refine ga_all1 (i := 1) (by kernel_rfl) ?_
        · skip
          refine gb_y rfl rfl (y_tostr (bytes := [80]) Tryd.underlying39 Tryd.underlying5 Tryd.underlying9 rfl (blk_own (i := 0) rfl) rfl (u8s_get0 (l := [80]))) ?_
          refine ga_y 4 rfl (by kernel_rfl) (by kernel_rfl) rfl (y_sadd rfl rfl (by first | omega | (simp only [List.length_append, List.length_cons, List.length_nil, List.length_take, List.length_drop, List.length_map, List.length_replicate, List.length_set, u8s_length, fx_length, fixed_length, turn_length]; omega))) ?_
          refine ga_y 5 rfl (by kernel_rfl) (by kernel_rfl) rfl (y_sadd rfl rfl (by first | omega | (simp only [List.length_append, List.length_cons, List.length_nil, List.length_take, List.length_drop, List.length_map, List.length_replicate, List.length_set, u8s_length, fx_length, fixed_length, turn_length]; omega))) ?_
          refine ga_y 6 rfl (by kernel_rfl) (by kernel_rfl) rfl (y_assign rfl) ?_
          refine ga_y 7 rfl (by kernel_rfl) (by kernel_rfl) rfl (y_assign rfl) ?_
          refine ga_done (by kernel_rfl) ?_
          refine gq_then' ?_
          refine gc_ret ?_
          refine gq_in_ret ?_
          refine gq_pass_ret ?_
          refine gq_r2 rfl rfl rfl perm_all ?_
          exact rfl

theorem one_any (x : KIt) (h : x.ok) : CtrQ Tryd.prog 24 [x.val] KMax (fun v => v = .tuple #[.string (bs x.enc), .bool true]) := by
  cases x
  · exact one_nil
  · exact one_no
  · exact one_yes
  · exact one_int _ h
  · exact one_uint _ h
  · exact one_text _ h
theorem KIt.val_one (x : KIt) : [x.val].all one1 = true := by cases x <;> rfl
theorem y_down_no {T : TypeId} {L : Sl} {S : World → Prop} {y : Operand} (x : KIt) (hx : ev L y = some x.val) :
    Y Tryd.prog (.typeAssert y 20 41 true) T L S (.tuple [.agg #[.nilIface], .bool false].toArray) := by
  cases x
  · exact y_asnil Tryd.underlying41 rfl zr_41 hx
  all_goals exact y_asno Tryd.underlying41 rfl zr_41 (by decide) hx

theorem item_down (x : KIt) (h : x.ok) : CtrQ Tryd.prog 17 [.iface 41 (.agg (List.toArray [x.val]))] (KMax) (fun v => v = .tuple #[.string (bs (turn x.enc)), .bool true]) := by
  refine CtrQ.of fun I hK => ?_
  have hE := KIt.enc_len x h
  refine ctr_of Tryd.func17 rfl (n := 27) rfl rfl ?_
  intro G R
  simp only [argL]
  refine gc_seq ?_
  refine gc_region ?_
  refine gl_y rfl (y_assign rfl) ?_
  refine gl_y rfl (y_assign rfl) ?_
  refine gl_nil ?_
  refine gq_then' ?_
  refine gc_seq ?_
  refine gc_seq ?_
  refine gc_region ?_
  refine gl_y rfl (y_move rfl) ?_
  refine gl_y rfl (y_assert_yes Tryd.underlying41 rfl rfl) ?_
  refine gl_y rfl (y_move rfl) ?_
  refine gl_y rfl (y_extract rfl rfl) ?_
  refine gl_y rfl (y_extract rfl rfl) ?_
  refine gl_ef (ef_alloc zr_41 (l := [_]) rfl rfl) ?_
  rintro _ _ _ ⟨b4, rfl, rfl, rfl⟩
  refine gl_ef (ef_storeA sz_41 rfl (vs := [_]) rfl rfl (KIt.val_one x) (i := 0) rfl rfl) ?_
  rintro _ _ _ ⟨rfl, rfl, rfl⟩
  refine gl_y rfl (y_assign rfl) ?_
  refine gl_nil ?_
  refine gq_then' ?_
  refine gc_seq ?_
  refine gc_region ?_
  refine gl_y rfl (y_move rfl) ?_
  refine gl_nil ?_
  refine gq_then' ?_
  refine gc_t rfl rfl ?_
  refine gc_seq ?_
  refine gc_region ?_
  refine gl_y rfl (y_faddr fo_41_0 rfl) ?_
  refine gl_y rfl (y_load ag_20 rfl (blk_own (i := 0) rfl) rfl) ?_
  refine gl_ef (ef_callq en_24 rfl (one_any x h) perm_all (fun _ _ _ _ h => hK.le h) rfl) ?_
  rintro _ _ _ ⟨v17, rfl, rfl, rfl, rfl⟩
  refine gl_y rfl (y_move rfl) ?_
  refine gl_y rfl (y_extract rfl rfl) ?_
  refine gl_y rfl (y_extract rfl rfl) ?_
  refine gl_y rfl (y_assign rfl) ?_
  refine gl_y rfl (y_assign rfl) ?_
  refine gl_nil ?_
  refine gq_then' ?_
  refine gc_seq ?_
  refine gc_region ?_
  refine gl_y rfl (y_move rfl) ?_
  refine gl_ef (ef_callp en_21 rfl (keys_turned _ (by first | omega | (simp only [List.length_append, List.length_cons, List.length_nil, List.length_take, List.length_drop, List.length_map, List.length_replicate, List.length_set, u8s_length, fx_length, fixed_length, turn_length]; omega))) rfl) ?_
  rintro _ _ _ ⟨v21, rfl, rfl, rfl, rfl⟩
  refine gl_y rfl (y_move rfl) ?_
  refine gl_y rfl (y_assign rfl) ?_
  refine gl_y rfl (y_assign rfl) ?_
  refine gl_nil ?_
  refine gq_then' ?_
  refine gc_ret ?_
  refine gq_pass_ret ?_
  refine gq_r2 rfl rfl rfl perm_all ?_
  exact rfl
theorem item_plain (x : KIt) (h : x.ok) : CtrQ Tryd.prog 17 [x.val] (KMax) (fun v => v = .tuple #[.string (bs x.enc), .bool true]) := by
  refine CtrQ.of fun I hK => ?_
  refine ctr_of Tryd.func17 rfl (n := 27) rfl rfl ?_
  intro G R
  simp only [argL]
  refine gc_seq ?_
  refine gc_region ?_
  refine gl_y rfl (y_assign rfl) ?_
  refine gl_y rfl (y_assign rfl) ?_
  refine gl_nil ?_
  refine gq_then' ?_
  refine gc_seq ?_
  refine gc_seq ?_
  refine gc_region ?_
  refine gl_y rfl (y_move rfl) ?_
  refine gl_y rfl (y_down_no x rfl) ?_
  refine gl_y rfl (y_move rfl) ?_
  refine gl_y rfl (y_extract rfl rfl) ?_
  refine gl_y rfl (y_extract rfl rfl) ?_
  refine gl_ef (ef_alloc zr_41 (l := [_]) rfl rfl) ?_
  rintro _ _ _ ⟨b4, rfl, rfl, rfl⟩
  refine gl_ef (ef_storeA sz_41 rfl (vs := [_]) rfl rfl rfl (i := 0) rfl rfl) ?_
  rintro _ _ _ ⟨rfl, rfl, rfl⟩
  refine gl_y rfl (y_assign rfl) ?_
  refine gl_nil ?_
  refine gq_then' ?_
  refine gc_seq ?_
  refine gc_region ?_
  refine gl_y rfl (y_move rfl) ?_
  refine gl_nil ?_
  refine gq_then' ?_
  refine gc_f rfl rfl ?_
  refine gc_skip ?_
  refine gq_then' ?_
  refine gc_seq ?_
  refine gc_region ?_
  refine gl_y rfl (y_move rfl) ?_
  refine gl_ef (ef_callq en_24 rfl (one_any x h) perm_all (fun _ _ _ _ h => hK.le h) rfl) ?_
  rintro _ _ _ ⟨v24, rfl, rfl, rfl, rfl⟩
  refine gl_y rfl (y_extract rfl rfl) ?_
  refine gl_y rfl (y_extract rfl rfl) ?_
  refine gl_y rfl (y_assign rfl) ?_
  refine gl_y rfl (y_assign rfl) ?_
  refine gl_nil ?_
  refine gq_then' ?_
  refine gc_ret ?_
  refine gq_r2 rfl rfl rfl perm_all ?_
  exact rfl

theorem item_any (a : KItem) (h : a.x.ok) : CtrQ Tryd.prog 17 [a.val] KMax (fun v => v = .tuple #[.string (bs a.enc), .bool true]) := by
  obtain ⟨x, d⟩ := a
  cases d
  · exact item_plain x h
  · exact item_down x h
theorem KItem.cells (l : List KItem) (i : Nat) (a : KItem) (h : l[i]? = some a) : (l.map KItem.val)[(i : Int).toNat * 1]? = some a.val := by
  rw [Nat.mul_one, Int.toNat_natCast, List.getElem?_map, h]; rfl

theorem keys_Encode (A : Option Addr) (c : Nat) (l : List KItem) (hl : l.length ≤ 1000000) (hok : ∀ a ∈ l, a.x.ok) : CtrQ Tryd.prog 10 [.slice A l.length c] (fun I => KMax I ∧ Rsl I 1 A l.length (l.map KItem.val)) (fun v => v = .tuple #[.string (bs (encAll l)), .int .i64 0]) := by
  refine CtrQ.of fun I hK => ?_
  obtain ⟨hK, hR⟩ := hK
  have hE := encAll_len l hok
  refine ctr_of Tryd.func10 rfl (n := 27) rfl rfl ?_
  intro G R
  simp only [argL]
  refine gc_seq ?_
  refine gc_region ?_
  refine gl_y rfl (y_assign rfl) ?_
  refine gl_y rfl (y_assign rfl) ?_
  refine gl_nil ?_
  refine gq_then' ?_
  refine gc_seq ?_
  refine gc_region ?_
  refine gl_y rfl (y_assign rfl) ?_
  refine gl_nil ?_
  refine gq_then' ?_
  refine gc_seq ?_
  refine gc_seq ?_
  refine gc_region ?_
  refine gl_y rfl (y_move rfl) ?_
  refine gl_y rfl (y_len Tryd.underlying36 rfl) ?_
  refine gl_y rfl (y_move rfl) ?_
  refine gl_nil ?_
  refine gq_then' ?_
  refine gc_block ?_
  refine gc_loopW (α := Nat) [12, 13, 14, 6, 16, 17, 15, 18, 19, 7, 8, 20, 21, 2, 3, 22, 23, 24, 4, 25, 11] (fun (i : Nat) => [(4, .string (bs (encAll (l.take i)))), (11, .int .i64 (i : Int))]) (fun (i : Nat) => []) (fun (i : Nat) => i ≤ l.length) (fun (i : Nat) => l.length - i) 0 ?_ perm_all ?_ ?_
  · exact Nat.zero_le _
  · exact ⟨rfl, rfl, trivial⟩
  · rintro i hi
    refine gc_seq ?_
    refine gc_region ?_
    refine gl_y rfl (y_lss rfl rfl) ?_
    refine gl_nil ?_
    refine gq_then' ?_
    refine gc_seq ?_
    refine gc_if rfl (fun h12 => ?_) (fun h12 => ?_)
    · have g12 := h12
      try (replace g12 := of_decide_eq_true g12)
      first
      | exact absurd h12 (by decide)
      | (exfalso; omega)
      | skip
        refine gc_skip ?_
        refine gq_then' ?_
        refine gc_seq ?_
        refine gc_block ?_
        refine gc_seq ?_
        refine gc_region ?_
        obtain ⟨a, ha⟩ : ∃ a, l[i]? = some a := ⟨_, List.getElem?_eq_getElem (by omega)⟩
        have ham := List.mem_of_getElem? ha
        obtain ⟨b, o, t, fz, cs, hA, hI, hc⟩ := hR.pos (by omega)
        have hE1 := encAll_len (l.take i) (fun a h => hok a (List.mem_of_mem_take h))
        have hE2 := KItem.enc_len a (hok a ham)
        have hE3 : (l.take i).length ≤ l.length := (by rw [List.length_take]; omega)
        refine gl_y rfl (y_iaddrA Tryd.underlying36 sz_20 rfl hA rfl (by omega) (by omega)) ?_
        refine gl_y rfl (y_load ag_20 rfl (blk_known hI) (hc _ _ (KItem.cells l i a ha))) ?_
        refine gl_y rfl (y_assign rfl) ?_
        refine gl_nil ?_
        refine gq_then' ?_
        refine gc_seq ?_
        refine gc_region ?_
        refine gl_y rfl (y_move rfl) ?_
        refine gl_ef (ef_callq en_17 rfl (item_any a (hok a ham)) perm_all (fun _ _ _ _ h => hK.le h) rfl) ?_
        rintro _ _ _ ⟨v17, rfl, rfl, rfl, rfl⟩
        refine gl_y rfl (y_move rfl) ?_
        refine gl_y rfl (y_extract rfl rfl) ?_
        refine gl_y rfl (y_extract rfl rfl) ?_
        refine gl_y rfl (y_assign rfl) ?_
        refine gl_y rfl (y_assign rfl) ?_
        refine gl_nil ?_
        refine gq_then' ?_
        refine gc_seq ?_
        refine gc_seq ?_
        refine gc_region ?_
        refine gl_y rfl (y_move rfl) ?_
        refine gl_y rfl (y_not rfl) ?_
        refine gl_nil ?_
        refine gq_then' ?_
        refine gc_f rfl rfl ?_
        refine gc_skip ?_
        refine gq_then' ?_
        refine gc_region ?_
        refine gl_y rfl (y_move rfl) ?_
        refine gl_y rfl (y_move rfl) ?_
        refine gl_y rfl (y_sadd rfl rfl (by first | omega | (simp only [List.length_append, List.length_cons, List.length_nil, List.length_take, List.length_drop, List.length_map, List.length_replicate, List.length_set, u8s_length, fx_length, fixed_length, turn_length]; omega))) ?_
        refine gl_y rfl (y_assign rfl) ?_
        refine gl_nil ?_
        refine gq_in_normal ?_
        refine gq_then' ?_
        refine gc_region ?_
        first | refine gl_y rfl (y_add rfl rfl (wr_i64 (by omega) (by omega))) ?_ | refine gl_y rfl (y_add rfl rfl rfl) ?_
        refine gl_y rfl (y_move rfl) ?_
        refine gl_nil ?_
        refine gq_roundW (i + 1) ?_ ?_ perm_all rfl (by repeat (first | exact Ext.refl | refine Ext.cons rfl ?_)) ?_
        · omega
        · (show l.length - (i + 1) < l.length - i); omega
        · exact ⟨by rw [encAll_take l i a ha]; rfl, rfl, trivial⟩
    · have g12 := h12
      try (replace g12 := of_decide_eq_false g12)
      first
      | exact absurd h12 (by decide)
      | (exfalso; omega)
      | skip
        refine gc_exit ?_
        refine gq_pass_exit ?_
        refine gq_pass_exit ?_
        refine gq_in_exit ?_
        refine gq_then' ?_
        refine gc_seq ?_
        refine gc_region ?_
        refine gl_y rfl (y_move rfl) ?_
        obtain rfl : i = l.length := by omega
        rw [List.take_length]
        refine gl_y rfl (y_assign rfl) ?_
        refine gl_y rfl (y_assign rfl) ?_
        refine gl_nil ?_
        refine gq_then' ?_
        refine gc_ret ?_
        refine gq_r2 rfl rfl rfl perm_all ?_
        exact rfl
end Go.Proofs.YtgoaclokjenpkaaDoorS
