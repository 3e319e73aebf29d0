/- keys: the law KeysItems, walked. -/
import Derived.Test.YtgoaclokjenpkaaDoorSepFacts
import Derived.Test.YtgoaclokjenpkaaDoorSepQ
import Derived.Test.YtgoaclokjenpkaaDoorXKeysorder
set_option linter.unusedVariables false
set_option linter.unusedSimpArgs false
set_option maxRecDepth 20000
namespace Go.Proofs.YtgoaclokjenpkaaDoorS
open Go.RowKit Go.Proofs

/-- What is told to be no item. -/
def BadItem (v : Value) : Prop := CtrQ Tryd.prog 17 [v] KMax (fun r => r = .tuple #[.string (bs []), .bool false])

theorem one_bad (u : Nat) (x : Value) (h1 : u ≠ 4) (h2 : u ≠ 2) (h3 : u ≠ 22) (h4 : u ≠ 9) : CtrQ Tryd.prog 24 [.iface u x] (KMax) (fun v => v = .tuple #[.string (bs []), .bool false]) := by
  refine CtrQ.of fun I hK => ?_
  refine ctr_of Tryd.func24 rfl (n := 48) rfl rfl ?_
  intro G R
  simp only [argL]
  refine gc_seq ?_
  refine gc_region ?_
  refine gl_y rfl (y_assign rfl) ?_
  refine gl_y rfl (y_assign rfl) ?_
  refine gl_nil ?_
  refine gq_then' ?_
  refine gc_seq ?_
  refine gc_seq ?_
  refine gc_region ?_
  refine gl_y rfl (y_move rfl) ?_
  refine gl_nil ?_
  refine gq_then' ?_
  refine gc_block ?_
  refine gc_seq ?_
  refine gc_region ?_
  refine gl_y rfl (y_eqnil_no Tryd.underlying20 rfl) ?_
  refine gl_nil ?_
  refine gq_then' ?_
  refine gc_f rfl rfl ?_
  refine gc_seq ?_
  refine gc_region ?_
  refine gl_y rfl (y_asno Tryd.underlying4 rfl zr_4 (by first | decide | omega) rfl) ?_
  refine gl_y rfl (y_extract rfl rfl) ?_
  refine gl_y rfl (y_extract rfl rfl) ?_
  refine gl_nil ?_
  refine gq_then' ?_
  refine gc_f rfl rfl ?_
  refine gc_seq ?_
  refine gc_region ?_
  refine gl_y rfl (y_asno Tryd.underlying2 rfl zr_2 (by first | decide | omega) rfl) ?_
  refine gl_y rfl (y_extract rfl rfl) ?_
  refine gl_y rfl (y_extract rfl rfl) ?_
  refine gl_nil ?_
  refine gq_then' ?_
  refine gc_f rfl rfl ?_
  refine gc_seq ?_
  refine gc_region ?_
  refine gl_y rfl (y_asno Tryd.underlying22 rfl zr_22 (by first | decide | omega) rfl) ?_
  refine gl_y rfl (y_extract rfl rfl) ?_
  refine gl_y rfl (y_extract rfl rfl) ?_
  refine gl_nil ?_
  refine gq_then' ?_
  refine gc_f rfl rfl ?_
  refine gc_seq ?_
  refine gc_region ?_
  refine gl_y rfl (y_asno Tryd.underlying9 rfl zr_9 (by first | decide | omega) rfl) ?_
  refine gl_y rfl (y_extract rfl rfl) ?_
  refine gl_y rfl (y_extract rfl rfl) ?_
  refine gl_nil ?_
  refine gq_then' ?_
  refine gc_f rfl rfl ?_
  refine gc_skip ?_
  refine gq_in_normal ?_
  refine gq_then' ?_
  refine gc_seq ?_
  refine gc_region ?_
  refine gl_y rfl (y_assign rfl) ?_
  refine gl_y rfl (y_assign rfl) ?_
  refine gl_nil ?_
  refine gq_then' ?_
  refine gc_ret ?_
  refine gq_r2 rfl rfl rfl perm_all ?_
  exact rfl
theorem item_bad (u : Nat) (x : Value) (h1 : u ≠ 4) (h2 : u ≠ 2) (h3 : u ≠ 22) (h4 : u ≠ 9) (h5 : u ≠ 41) : CtrQ Tryd.prog 17 [.iface u x] (KMax) (fun v => v = .tuple #[.string (bs []), .bool false]) := by
  refine CtrQ.of fun I hK => ?_
  refine ctr_of Tryd.func17 rfl (n := 27) rfl rfl ?_
  intro G R
  simp only [argL]
  refine gc_seq ?_
  refine gc_region ?_
  refine gl_y rfl (y_assign rfl) ?_
  refine gl_y rfl (y_assign rfl) ?_
  refine gl_nil ?_
  refine gq_then' ?_
  refine gc_seq ?_
  refine gc_seq ?_
  refine gc_region ?_
  refine gl_y rfl (y_move rfl) ?_
  refine gl_y rfl (y_asno Tryd.underlying41 rfl zr_41 (by first | decide | omega) rfl) ?_
  refine gl_y rfl (y_move rfl) ?_
  refine gl_y rfl (y_extract rfl rfl) ?_
  refine gl_y rfl (y_extract rfl rfl) ?_
  refine gl_ef (ef_alloc zr_41 (l := [_]) rfl rfl) ?_
  rintro _ _ _ ⟨b4, rfl, rfl, rfl⟩
  refine gl_ef (ef_storeA sz_41 rfl (vs := [_]) rfl rfl rfl (i := 0) rfl rfl) ?_
  rintro _ _ _ ⟨rfl, rfl, rfl⟩
  refine gl_y rfl (y_assign rfl) ?_
  refine gl_nil ?_
  refine gq_then' ?_
  refine gc_seq ?_
  refine gc_region ?_
  refine gl_y rfl (y_move rfl) ?_
  refine gl_nil ?_
  refine gq_then' ?_
  refine gc_f rfl rfl ?_
  refine gc_skip ?_
  refine gq_then' ?_
  refine gc_seq ?_
  refine gc_region ?_
  refine gl_y rfl (y_move rfl) ?_
  refine gl_ef (ef_callq en_24 rfl (one_bad u x h1 h2 h3 h4) perm_all (fun _ _ _ _ h => hK.le h) rfl) ?_
  rintro _ _ _ ⟨v24, rfl, rfl, rfl, rfl⟩
  refine gl_y rfl (y_extract rfl rfl) ?_
  refine gl_y rfl (y_extract rfl rfl) ?_
  refine gl_y rfl (y_assign rfl) ?_
  refine gl_y rfl (y_assign rfl) ?_
  refine gl_nil ?_
  refine gq_then' ?_
  refine gc_ret ?_
  refine gq_r2 rfl rfl rfl perm_all ?_
  exact rfl
theorem item_badown (u : Nat) (x : Value) (h1 : u ≠ 4) (h2 : u ≠ 2) (h3 : u ≠ 22) (h4 : u ≠ 9) : CtrQ Tryd.prog 17 [.iface 41 (.agg (List.toArray [.iface u x]))] (KMax) (fun v => v = .tuple #[.string (bs []), .bool false]) := by
  refine CtrQ.of fun I hK => ?_
  refine ctr_of Tryd.func17 rfl (n := 27) rfl rfl ?_
  intro G R
  simp only [argL]
  refine gc_seq ?_
  refine gc_region ?_
  refine gl_y rfl (y_assign rfl) ?_
  refine gl_y rfl (y_assign rfl) ?_
  refine gl_nil ?_
  refine gq_then' ?_
  refine gc_seq ?_
  refine gc_seq ?_
  refine gc_region ?_
  refine gl_y rfl (y_move rfl) ?_
  refine gl_y rfl (y_assert_yes Tryd.underlying41 rfl rfl) ?_
  refine gl_y rfl (y_move rfl) ?_
  refine gl_y rfl (y_extract rfl rfl) ?_
  refine gl_y rfl (y_extract rfl rfl) ?_
  refine gl_ef (ef_alloc zr_41 (l := [_]) rfl rfl) ?_
  rintro _ _ _ ⟨b4, rfl, rfl, rfl⟩
  refine gl_ef (ef_storeA sz_41 rfl (vs := [_]) rfl rfl rfl (i := 0) rfl rfl) ?_
  rintro _ _ _ ⟨rfl, rfl, rfl⟩
  refine gl_y rfl (y_assign rfl) ?_
  refine gl_nil ?_
  refine gq_then' ?_
  refine gc_seq ?_
  refine gc_region ?_
  refine gl_y rfl (y_move rfl) ?_
  refine gl_nil ?_
  refine gq_then' ?_
  refine gc_t rfl rfl ?_
  refine gc_seq ?_
  refine gc_region ?_
  refine gl_y rfl (y_faddr fo_41_0 rfl) ?_
  refine gl_y rfl (y_load ag_20 rfl (blk_own (i := 0) rfl) rfl) ?_
  refine gl_ef (ef_callq en_24 rfl (one_bad u x h1 h2 h3 h4) perm_all (fun _ _ _ _ h => hK.le h) rfl) ?_
  rintro _ _ _ ⟨v17, rfl, rfl, rfl, rfl⟩
  refine gl_y rfl (y_move rfl) ?_
  refine gl_y rfl (y_extract rfl rfl) ?_
  refine gl_y rfl (y_extract rfl rfl) ?_
  refine gl_y rfl (y_assign rfl) ?_
  refine gl_y rfl (y_assign rfl) ?_
  refine gl_nil ?_
  refine gq_then' ?_
  refine gc_seq ?_
  refine gc_region ?_
  refine gl_y rfl (y_move rfl) ?_
  refine gl_ef (ef_callp en_21 rfl (keys_turned [] (by decide)) rfl) ?_
  rintro _ _ _ ⟨v21, rfl, rfl, rfl, rfl⟩
  refine gl_y rfl (y_move rfl) ?_
  refine gl_y rfl (y_assign rfl) ?_
  refine gl_y rfl (y_assign rfl) ?_
  refine gl_nil ?_
  refine gq_then' ?_
  refine gc_ret ?_
  refine gq_pass_ret ?_
  refine gq_r2 rfl rfl rfl perm_all ?_
  exact rfl

theorem item_el (l : List KItem) (hok : ∀ a ∈ l, a.x.ok) (v : Value) (hb : BadItem v) (i : Nat) (el : Value) (h : (l.map KItem.val ++ [v])[i]? = some el) :
    CtrQ Tryd.prog 17 [el] KMax (fun r => ∃ t ok, r = .tuple #[.string (bs t), .bool ok] ∧ t.length ≤ 2100000 ∧ (ok = true → i < l.length ∧ ∃ a, l[i]? = some a ∧ t = a.enc)) := by
  by_cases hi : i < l.length
  · rw [List.getElem?_append_left (by simpa using hi)] at h
    simp only [List.getElem?_map, Option.map_eq_some_iff] at h
    obtain ⟨a, ha, rfl⟩ := h
    have hm := hok a (List.mem_of_getElem? ha)
    exact (item_any a hm).mono (fun _ h => h) fun r hr => ⟨a.enc, true, hr, KItem.enc_len a hm, fun _ => ⟨hi, a, ha, rfl⟩⟩
  · rw [List.getElem?_append_right (by simpa using hi)] at h
    have h0 : i - l.length = 0 := by
      have := (List.getElem?_eq_some_iff.1 h).1
      simp at this; omega
    simp only [List.length_map, h0, List.getElem?_cons_zero, Option.some.injEq] at h
    subst h
    exact hb.mono (fun _ h => h) fun r hr => ⟨[], false, hr, by simp, fun h => by cases h⟩

theorem keys_EncodeBad (A : Option Addr) (c : Nat) (l : List KItem) (w : Value) (hb : BadItem w) (hl : l.length ≤ 1000000) (hok : ∀ a ∈ l, a.x.ok) : CtrQ Tryd.prog 10 [.slice A (l.length + 1) c] (fun I => KMax I ∧ Rsl I 1 A (l.length + 1) (l.map KItem.val ++ [w])) (fun v => v = .tuple #[.string (bs []), .int .i64 1]) := by
  refine CtrQ.of fun I hK => ?_
  obtain ⟨hK, hR⟩ := hK
  have hE := encAll_len l hok
  refine ctr_of Tryd.func10 rfl (n := 27) rfl rfl ?_
  intro G R
  simp only [argL]
  refine gc_seq ?_
  refine gc_region ?_
  refine gl_y rfl (y_assign rfl) ?_
  refine gl_y rfl (y_assign rfl) ?_
  refine gl_nil ?_
  refine gq_then' ?_
  refine gc_seq ?_
  refine gc_region ?_
  refine gl_y rfl (y_assign rfl) ?_
  refine gl_nil ?_
  refine gq_then' ?_
  refine gc_seq ?_
  refine gc_seq ?_
  refine gc_region ?_
  refine gl_y rfl (y_move rfl) ?_
  refine gl_y rfl (y_len Tryd.underlying36 rfl) ?_
  refine gl_y rfl (y_move rfl) ?_
  refine gl_nil ?_
  refine gq_then' ?_
  refine gc_block ?_
  refine gc_loopW (α := Nat) [12, 13, 14, 6, 16, 17, 15, 18, 19, 7, 8, 20, 21, 2, 3, 22, 23, 24, 4, 25, 11] (fun (i : Nat) => [(4, .string (bs (encAll (l.take i)))), (11, .int .i64 (i : Int))]) (fun (i : Nat) => []) (fun (i : Nat) => i ≤ l.length) (fun (i : Nat) => l.length - i) 0 ?_ perm_all ?_ ?_
  · exact Nat.zero_le _
  · exact ⟨rfl, rfl, trivial⟩
  · rintro i hi
    refine gc_seq ?_
    refine gc_region ?_
    refine gl_y rfl (y_lss rfl rfl) ?_
    refine gl_nil ?_
    refine gq_then' ?_
    refine gc_seq ?_
    refine gc_if rfl (fun h12 => ?_) (fun h12 => ?_)
    · have g12 := h12
      try (replace g12 := of_decide_eq_true g12)
      first
      | exact absurd h12 (by decide)
      | (exfalso; omega)
      | skip
        refine gc_skip ?_
        refine gq_then' ?_
        refine gc_seq ?_
        refine gc_block ?_
        refine gc_seq ?_
        refine gc_region ?_
        obtain ⟨el, hel⟩ : ∃ el, (l.map KItem.val ++ [w])[i]? = some el := ⟨_, List.getElem?_eq_getElem (by simp; omega)⟩
        obtain ⟨b, o, t, fz, cs, hA, hI, hc⟩ := hR.pos (by omega)
        have hE1 := encAll_len (l.take i) (fun a h => hok a (List.mem_of_mem_take h))
        have hE3 : (l.take i).length ≤ l.length := (by rw [List.length_take]; omega)
        refine gl_y rfl (y_iaddrA Tryd.underlying36 sz_20 rfl hA rfl (by omega) (by omega)) ?_
        refine gl_y rfl (y_load ag_20 rfl (blk_known hI) (hc _ _ (by rw [Nat.mul_one, Int.toNat_natCast]; exact hel))) ?_
        refine gl_y rfl (y_assign rfl) ?_
        refine gl_nil ?_
        refine gq_then' ?_
        refine gc_seq ?_
        refine gc_region ?_
        refine gl_y rfl (y_move rfl) ?_
        refine gl_ef (ef_callq en_17 rfl (item_el l hok w hb i el hel) perm_all (fun _ _ _ _ h => hK.le h) rfl) ?_
        rintro _ _ _ ⟨v17, ⟨t17, ok17, rfl, q17, p17⟩, rfl, rfl, rfl⟩
        refine gl_y rfl (y_move rfl) ?_
        refine gl_y rfl (y_extract rfl rfl) ?_
        refine gl_y rfl (y_extract rfl rfl) ?_
        refine gl_y rfl (y_assign rfl) ?_
        refine gl_y rfl (y_assign rfl) ?_
        refine gl_nil ?_
        refine gq_then' ?_
        refine gc_seq ?_
        refine gc_seq ?_
        refine gc_region ?_
        refine gl_y rfl (y_move rfl) ?_
        refine gl_y rfl (y_not rfl) ?_
        refine gl_nil ?_
        refine gq_then' ?_
        refine gc_if rfl (fun h21 => ?_) (fun h21 => ?_)
        · have g21 := h21
          try (replace g21 := of_decide_eq_true g21)
          first
          | exact absurd h21 (by decide)
          | (exfalso; omega)
          | skip
            refine gc_seq ?_
            refine gc_region ?_
            refine gl_y rfl (y_assign rfl) ?_
            refine gl_y rfl (y_assign rfl) ?_
            refine gl_nil ?_
            refine gq_then' ?_
            refine gc_ret ?_
            refine gq_pass_ret ?_
            refine gq_in_ret ?_
            refine gq_pass_ret ?_
            refine gq_pass_ret ?_
            refine gq_in_ret ?_
            refine gq_pass_ret ?_
            refine gq_r2 rfl rfl rfl perm_all ?_
            exact rfl
        · have g21 := h21
          try (replace g21 := of_decide_eq_false g21)
          first
          | exact absurd h21 (by decide)
          | (exfalso; omega)
          | skip
            refine gc_skip ?_
            refine gq_then' ?_
            refine gc_region ?_
            refine gl_y rfl (y_move rfl) ?_
            refine gl_y rfl (y_move rfl) ?_
            refine gl_y rfl (y_sadd rfl rfl (by first | omega | (simp only [List.length_append, List.length_cons, List.length_nil, List.length_take, List.length_drop, List.length_map, List.length_replicate, List.length_set, u8s_length, fx_length, fixed_length, turn_length]; omega))) ?_
            refine gl_y rfl (y_assign rfl) ?_
            refine gl_nil ?_
            refine gq_in_normal ?_
            refine gq_then' ?_
            refine gc_region ?_
            first | refine gl_y rfl (y_add rfl rfl (wr_i64 (by omega) (by omega))) ?_ | refine gl_y rfl (y_add rfl rfl rfl) ?_
            refine gl_y rfl (y_move rfl) ?_
            refine gl_nil ?_
            obtain ⟨hi2, a, ha, rfl⟩ := p17 (by simpa using h21)
            refine gq_roundW (i + 1) ?_ ?_ perm_all rfl (by repeat (first | exact Ext.refl | refine Ext.cons rfl ?_)) ?_
            · omega
            · (show l.length - (i + 1) < l.length - i); omega
            · exact ⟨by rw [encAll_take l i a ha]; rfl, rfl, trivial⟩
    · have g12 := h12
      try (replace g12 := of_decide_eq_false g12)
      first
      | exact absurd h12 (by decide)
      | (exfalso; omega)
      | skip
        refine gc_exit ?_
        refine gq_pass_exit ?_
        refine gq_pass_exit ?_
        refine gq_in_exit ?_
        refine gq_then' ?_
        refine gc_seq ?_
        refine gc_region ?_
        refine gl_y rfl (y_move rfl) ?_
        refine gl_y rfl (y_assign rfl) ?_
        refine gl_y rfl (y_assign rfl) ?_
        refine gl_nil ?_
        refine gq_then' ?_
        refine gc_ret ?_
        refine gq_r2 rfl rfl rfl perm_all ?_
        exfalso; omega
theorem keys_CompareBad (A B : Option Addr) (ca cb : Nat) (w : Value) (hb : BadItem w) : CtrQ Tryd.prog 13 [.slice A 1 ca, .slice B 1 cb] (fun I => KMax I ∧ Rsl I 1 A 1 [w] ∧ Rsl I 1 B 1 [w]) (fun v => v = .tuple #[.int .i64 0, .int .i64 1]) := by
  refine CtrQ.of fun I hK => ?_
  obtain ⟨hK, hRa, hRb⟩ := hK
  refine ctr_of Tryd.func13 rfl (n := 29) rfl rfl ?_
  intro G R
  simp only [argL]
  refine gc_seq ?_
  refine gc_region ?_
  refine gl_y rfl (y_assign rfl) ?_
  refine gl_y rfl (y_assign rfl) ?_
  refine gl_nil ?_
  refine gq_then' ?_
  refine gc_seq ?_
  refine gc_region ?_
  refine gl_y rfl (y_move rfl) ?_
  refine gl_ef (ef_callq en_10 rfl (keys_EncodeBad _ _ [] w hb (by decide) (by simp)) perm_all (fun _ _ _ _ h => ⟨hK.le h, hRa.mono h⟩) rfl) ?_
  rintro _ _ _ ⟨v12, rfl, rfl, rfl, rfl⟩
  refine gl_y rfl (y_move rfl) ?_
  refine gl_y rfl (y_extract rfl rfl) ?_
  refine gl_y rfl (y_extract rfl rfl) ?_
  refine gl_y rfl (y_assign rfl) ?_
  refine gl_y rfl (y_assign rfl) ?_
  refine gl_nil ?_
  refine gq_then' ?_
  refine gc_seq ?_
  refine gc_region ?_
  refine gl_y rfl (y_move rfl) ?_
  refine gl_ef (ef_callq en_10 rfl (keys_EncodeBad _ _ [] w hb (by decide) (by simp)) perm_all (fun _ _ _ _ h => ⟨hK.le h, hRb.mono h⟩) rfl) ?_
  rintro _ _ _ ⟨v17, rfl, rfl, rfl, rfl⟩
  refine gl_y rfl (y_move rfl) ?_
  refine gl_y rfl (y_extract rfl rfl) ?_
  refine gl_y rfl (y_extract rfl rfl) ?_
  refine gl_y rfl (y_assign rfl) ?_
  refine gl_y rfl (y_assign rfl) ?_
  refine gl_nil ?_
  refine gq_then' ?_
  refine gc_seq ?_
  refine gc_seq ?_
  refine gc_region ?_
  refine gl_y rfl (y_move rfl) ?_
  refine gl_y rfl (y_neq rfl rfl) ?_
  refine gl_y rfl (y_move rfl) ?_
  refine gl_if (t := 22) rfl (fun h22 => ?_) (fun h22 => ?_)
  · have g22 := h22
    try (replace g22 := of_decide_eq_true g22)
    first
    | exact absurd h22 (by decide)
    | (exfalso; omega)
    | skip
      refine gl_skip rfl rfl rfl h22 rfl ?_
      refine gl_skip rfl rfl rfl h22 rfl ?_
      refine gl_y rfl (y_pick_t rfl h22 rfl) ?_
      refine gl_nil ?_
      refine gq_then' ?_
      refine gc_t rfl rfl ?_
      refine gc_seq ?_
      refine gc_region ?_
      refine gl_y rfl (y_assign rfl) ?_
      refine gl_y rfl (y_assign rfl) ?_
      refine gl_nil ?_
      refine gq_then' ?_
      refine gc_ret ?_
      refine gq_pass_ret ?_
      refine gq_r2 rfl rfl rfl perm_all ?_
      exact rfl
  · have g22 := h22
    try (replace g22 := of_decide_eq_false g22)
    first
    | exact absurd h22 (by decide)
    | (exfalso; omega)
    | skip
      refine gl_want rfl rfl rfl h22 ?_
      refine gl_y rfl (y_move rfl) ?_
      refine gl_want rfl rfl rfl h22 ?_
      refine gl_y rfl (y_neq rfl rfl) ?_
      refine gl_y rfl (y_pick_f rfl h22 rfl) ?_
      refine gl_nil ?_
      refine gq_then' ?_
      refine gc_if rfl (fun h25 => ?_) (fun h25 => ?_)
      · have g25 := h25
        try (replace g25 := of_decide_eq_true g25)
        first
        | exact absurd h25 (by decide)
        | (exfalso; omega)
        | skip
          refine gc_seq ?_
          refine gc_region ?_
          refine gl_y rfl (y_assign rfl) ?_
          refine gl_y rfl (y_assign rfl) ?_
          refine gl_nil ?_
          refine gq_then' ?_
          refine gc_ret ?_
          refine gq_pass_ret ?_
          refine gq_r2 rfl rfl rfl perm_all ?_
          exfalso; omega
      · have g25 := h25
        try (replace g25 := of_decide_eq_false g25)
        first
        | exact absurd h25 (by decide)
        | (exfalso; omega)
        | skip
          refine gc_skip ?_
          refine gq_then' ?_
          refine gc_seq ?_
          refine gc_region ?_
          refine gl_y rfl (y_move rfl) ?_
          refine gl_y rfl (y_move rfl) ?_
          refine gl_ef (ef_callp en_20 rfl (p_Compare _ _) rfl) ?_
          rintro _ _ _ ⟨v28, rfl, rfl, rfl, rfl⟩
          refine gl_y rfl (y_assign rfl) ?_
          refine gl_y rfl (y_assign rfl) ?_
          refine gl_nil ?_
          refine gq_then' ?_
          refine gc_ret ?_
          refine gq_r2 rfl rfl rfl perm_all ?_
          exact rfl
end Go.Proofs.YtgoaclokjenpkaaDoorS
