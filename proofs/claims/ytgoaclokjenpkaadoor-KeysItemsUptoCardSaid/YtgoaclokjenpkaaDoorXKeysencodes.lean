/- keys: the law KeysEncodes, walked. -/
import Derived.Test.YtgoaclokjenpkaaDoorSepFacts
import Derived.Test.YtgoaclokjenpkaaDoorSepQ
import Derived.Test.YtgoaclokjenpkaaDoorXKeysref
import Derived.Test.YtgoaclokjenpkaaDoorXKeysdecodes
set_option linter.unusedVariables false
set_option linter.unusedSimpArgs false
set_option maxRecDepth 20000
namespace Go.Proofs.YtgoaclokjenpkaaDoorS
open Go.RowKit Go.Proofs

theorem kit_few {r : RI} (h : r.ok) (ht : r.text.length ≤ 100) : r.item.enc.length ≤ 300 := by
  have e : r.item.enc.length = r.kit.enc.length := by
    unfold KItem.enc RI.item
    dsimp only
    split
    · exact turn_length _
    · rfl
  rw [e]
  have h2 := (esc_length r.text).2
  unfold RI.kit
  repeat' split
  all_goals simp only [KIt.enc, List.length_cons, List.length_nil, fixed_length, List.length_append]
  all_goals omega
theorem encAll_few : ∀ (l : List RI), (∀ r ∈ l, r.ok) → (∀ r ∈ l, r.text.length ≤ 100) → (encAll (l.map RI.item)).length ≤ l.length * 300
  | [], _, _ => by simp [encAll]
  | r :: l, h, ht => by
    have h1 := kit_few (h r (by simp)) (ht r (by simp))
    have h2 := encAll_few l (fun a ha => h a (by simp [ha])) (fun a ha => ht a (by simp [ha]))
    simp only [encAll, List.map_cons, List.flatten_cons, List.length_append, List.length_cons] at h2 ⊢
    omega
theorem items_ok {l : List RI} (h : ∀ r ∈ l, r.ok) (ht : ∀ r ∈ l, r.text.length ≤ 100) : ∀ a ∈ l.map RI.item, a.x.ok := by
  intro a ha
  obtain ⟨r, hr, rfl⟩ := List.mem_map.1 ha
  exact r.item_ok (h r hr) (by have := ht r hr; omega)
theorem itemVals_eq (l : List RI) : itemVals l = (l.map RI.item).map KItem.val := by simp [itemVals]
theorem itemVals_get (l : List RI) (i : Nat) (a : RI) (h : l[i]? = some a) : (itemVals l)[(i : Int).toNat * 1]? = some a.item.val := by
  rw [Nat.mul_one, Int.toNat_natCast]; simp [itemVals, h]
theorem keys_EncodeI (A : Option Addr) (c : Nat) (l : List RI) (hl : l.length ≤ 1000000) (h : ∀ r ∈ l, r.ok) (ht : ∀ r ∈ l, r.text.length ≤ 100) :
    CtrQ Tryd.prog 10 [.slice A l.length c] (fun I => KMax I ∧ Rsl I 1 A l.length (itemVals l)) (fun v => v = .tuple #[.string (bs (encAll (l.map RI.item))), .int .i64 0]) := by
  have := keys_Encode A c (l.map RI.item) (by simpa using hl) (items_ok h ht)
  rw [← itemVals_eq] at this
  simpa using this
theorem dec_item {l : List RI} (h : ∀ r ∈ l, r.ok) (ht : ∀ r ∈ l, r.text.length ≤ 100) : decE (encAll (l.map RI.item)) = 0 ∧ decL (encAll (l.map RI.item)) = l.map RI.item := by
  have e := dec_enc (l.map RI.item) _ (items_ok h ht) (Nat.le_refl _)
  simp [decE, decL, e]
theorem keys_DecodeI {I : PH} (l : List RI) (hl : l.length ≤ 12) (h : ∀ r ∈ l, r.ok) (ht : ∀ r ∈ l, r.text.length ≤ 100) :
    Ctr Tryd.prog 15 [.string (bs (encAll (l.map RI.item)))] I [] (fun v _ M' => ∃ A, v = .tuple #[A, .int .i64 0] ∧ M' = [osl 20 1 A l.length (itemVals l)]) := by
  have hE := encAll_few l h ht
  have := keys_Decode (I := I) (encAll (l.map RI.item)) (by omega)
  rw [(dec_item h ht).1, (dec_item h ht).2, ← itemVals_eq] at this
  simpa using this
theorem bs_beq (l : List UInt8) : (bs l == bs l) = true := by
  show (ByteArray.instBEq.beq _ _) = true
  unfold ByteArray.instBEq
  simp only [bs]
  exact beq_self_eq_true (l.toArray)
theorem down_fields : Tryd.prog.underlying 41 = some (.struct #[Field.mk "Item" 20 0 false "" "" 0]) := by kernel_rfl
theorem eq_kit (x : KIt) (d : Nat) (w : World) : (Op.equalIn (d + 2) 20 x.val x.val).run Tryd.prog w = .ok true w := by
  cases x with
  | nil => exact run_eqin_nn (d + 1) Tryd.underlying20
  | no => exact run_eqin_iface (d + 1) Tryd.underlying20 (by kernel_rfl) (run_eqin_bool d false false Tryd.underlying4)
  | yes => exact run_eqin_iface (d + 1) Tryd.underlying20 (by kernel_rfl) (run_eqin_bool d true true Tryd.underlying4)
  | int n => exact run_eqin_iface (d + 1) Tryd.underlying20 (by kernel_rfl) ((run_eqin_int d n n Tryd.underlying2).trans (by rw [beq_self_eq_true]))
  | uint n => exact run_eqin_iface (d + 1) Tryd.underlying20 (by kernel_rfl) ((run_eqin_int d n n Tryd.underlying22).trans (by rw [beq_self_eq_true]))
  | text l => exact run_eqin_iface (d + 1) Tryd.underlying20 (by kernel_rfl) ((run_eqin_string d (bs l) (bs l) Tryd.underlying9).trans (by rw [bs_beq]))
theorem eq_item (a : KItem) (w : World) : (Op.equal 20 a.val a.val).run Tryd.prog w = .ok true w := by
  obtain ⟨x, d⟩ := a
  cases d
  · exact eq_kit x 9998 w
  · exact run_eqin_iface 9999 Tryd.underlying20 (by kernel_rfl) (run_eqin_struct1 9998 down_fields (by kernel_rfl) (by decide) rfl ag_20 (eq_kit x 9996 w))
theorem item_ifc (a : KItem) : ifc a.val = true := by
  obtain ⟨x, d⟩ := a
  cases d <;> cases x <;> rfl

theorem ref_Encode (A : Option Addr) (c : Nat) (l : List RI) (hl : l.length ≤ 12) (hok : ∀ r ∈ l, r.ok) (ht : ∀ r ∈ l, r.text.length ≤ 100) : CtrQ Tryd.prog 16 [.slice A l.length c] (fun I => Rsl I 5 A l.length ((l.map RI.cells).flatten)) (fun v => v = .string (bs (encAll (l.map RI.item)))) := by
  refine CtrQ.of fun I hK => ?_
  have hR := hK
  have hE := encAll_few l hok ht
  refine ctr_of Tryd.func16 rfl (n := 19) rfl rfl ?_
  intro G R
  simp only [argL]
  refine gc_seq ?_
  refine gc_region ?_
  refine gl_y rfl (y_assign rfl) ?_
  refine gl_nil ?_
  refine gq_then' ?_
  refine gc_seq ?_
  refine gc_region ?_
  refine gl_y rfl (y_assign rfl) ?_
  refine gl_nil ?_
  refine gq_then' ?_
  refine gc_seq ?_
  refine gc_seq ?_
  refine gc_region ?_
  refine gl_y rfl (y_assign rfl) ?_
  refine gl_nil ?_
  refine gq_then' ?_
  refine gc_block ?_
  refine gc_loopW (α := Nat) [5, 6, 7, 8, 11, 12, 13, 14, 15, 16, 17, 3, 9, 10, 4] (fun (i : Nat) => [(4, .int .i64 (i : Int)), (3, .string (bs (encAll ((l.take i).map RI.item))))]) (fun (i : Nat) => []) (fun (i : Nat) => i ≤ l.length) (fun (i : Nat) => l.length - i) 0 ?_ perm_all ?_ ?_
  · exact Nat.zero_le _
  · exact ⟨rfl, rfl, trivial⟩
  · rintro i hi
    refine gc_seq ?_
    refine gc_seq ?_
    refine gc_region ?_
    refine gl_y rfl (y_move rfl) ?_
    refine gl_y rfl (y_move rfl) ?_
    refine gl_y rfl (y_len Tryd.underlying27 rfl) ?_
    refine gl_y rfl (y_lss rfl rfl) ?_
    refine gl_nil ?_
    refine gq_then' ?_
    refine gc_if rfl (fun h8 => ?_) (fun h8 => ?_)
    · have g8 := h8
      try (replace g8 := of_decide_eq_true g8)
      first
      | exact absurd h8 (by decide)
      | (exfalso; omega)
      | skip
        refine gc_skip ?_
        refine gq_then' ?_
        refine gc_seq ?_
        refine gc_block ?_
        refine gc_region ?_
        refine gl_y rfl (y_move rfl) ?_
        refine gl_y rfl (y_move rfl) ?_
        refine gl_y rfl (y_move rfl) ?_
        obtain ⟨a, ha⟩ : ∃ a, l[i]? = some a := ⟨_, List.getElem?_eq_getElem (by omega)⟩
        have ham := List.mem_of_getElem? ha
        obtain ⟨b, o, t, fz, cs, hA, hI, hc⟩ := hR.pos (by omega)
        have hE1 := encAll_few (l.take i) (fun r h => hok r (List.mem_of_mem_take h)) (fun r h => ht r (List.mem_of_mem_take h))
        have hE2 := kit_few (hok a ham) (ht a ham)
        have hE3 : (l.take i).length ≤ l.length := (by rw [List.length_take]; omega)
        have hE4 := ht a ham
        refine gl_y rfl (y_iaddrA Tryd.underlying27 sz_24 rfl hA rfl (by omega) (by omega)) ?_
        refine gl_y rfl (y_loadA ag_24 sz_24 rfl (blk_known hI) (vs := a.cells) rfl (ri_block hc i a ha)) ?_
        refine gl_ef (ef_callp en_23 rfl (ref_Bytes a (hok a ham) (by first | omega | (simp only [List.length_append, List.length_cons, List.length_nil, List.length_take, List.length_drop, List.length_map, List.length_replicate, List.length_set, u8s_length, fx_length, fixed_length, turn_length]; omega))) rfl) ?_
        rintro _ _ _ ⟨v16, rfl, rfl, rfl, rfl⟩
        refine gl_y rfl (y_sadd rfl rfl (by first | omega | (simp only [List.length_append, List.length_cons, List.length_nil, List.length_take, List.length_drop, List.length_map, List.length_replicate, List.length_set, u8s_length, fx_length, fixed_length, turn_length]; omega))) ?_
        refine gl_y rfl (y_assign rfl) ?_
        refine gl_nil ?_
        refine gq_in_normal ?_
        refine gq_then' ?_
        refine gc_region ?_
        refine gl_y rfl (y_move rfl) ?_
        first | refine gl_y rfl (y_add rfl rfl (wr_i64 (by omega) (by omega))) ?_ | refine gl_y rfl (y_add rfl rfl rfl) ?_
        refine gl_y rfl (y_assign rfl) ?_
        refine gl_nil ?_
        refine gq_roundW (i + 1) ?_ ?_ perm_all rfl (by repeat (first | exact Ext.refl | refine Ext.cons rfl ?_)) ?_
        · omega
        · (show l.length - (i + 1) < l.length - i); omega
        · exact ⟨rfl, by rw [List.take_add_one, ha]; simp [encAll, lk]; rfl, trivial⟩
    · have g8 := h8
      try (replace g8 := of_decide_eq_false g8)
      first
      | exact absurd h8 (by decide)
      | (exfalso; omega)
      | skip
        refine gc_exit ?_
        refine gq_pass_exit ?_
        refine gq_pass_exit ?_
        refine gq_in_exit ?_
        refine gq_then' ?_
        refine gc_seq ?_
        refine gc_region ?_
        refine gl_y rfl (y_move rfl) ?_
        refine gl_y rfl (y_assign rfl) ?_
        refine gl_nil ?_
        refine gq_then' ?_
        refine gc_ret ?_
        obtain rfl : i = l.length := by omega
        refine gq_r1 rfl rfl perm_all ?_
        rw [List.take_length]
theorem law_KeysEncodes (A : Option Addr) (c : Nat) (l : List RI) (hl : l.length ≤ 9223372036854775807) (hok : ∀ r ∈ l, r.ok) : CtrQ Tryd.prog 6 [.slice A l.length c] (fun I => KMax I ∧ Rsl I 5 A l.length ((l.map RI.cells).flatten)) (fun v => v = .bool true) := by
  refine CtrQ.of fun I hK => ?_
  obtain ⟨hK, hR⟩ := hK
  refine ctr_of Tryd.func6 rfl (n := 62) rfl rfl ?_
  intro G R
  simp only [argL]
  refine gc_seq ?_
  refine gc_region ?_
  refine gl_y rfl (y_assign rfl) ?_
  refine gl_nil ?_
  refine gq_then' ?_
  refine gc_seq ?_
  refine gc_seq ?_
  refine gc_region ?_
  refine gl_ef (ef_callq en_8 rfl (law_awake) perm_all (fun _ _ _ _ h => hK.le h) rfl) ?_
  rintro _ _ _ ⟨v8, rfl, rfl, rfl, rfl⟩
  refine gl_y rfl (y_not rfl) ?_
  refine gl_y rfl (y_move rfl) ?_
  refine gl_want rfl rfl rfl rfl ?_
  refine gl_y rfl (y_move rfl) ?_
  refine gl_want rfl rfl rfl rfl ?_
  refine gl_ef (ef_callq en_9 rfl (ref_Few _ _ l (by omega)) perm_all (fun _ _ _ _ h => hR.mono h) rfl) ?_
  rintro _ _ _ ⟨v12, rfl, rfl, rfl, rfl⟩
  refine gl_want rfl rfl rfl rfl ?_
  refine gl_y rfl (y_not rfl) ?_
  refine gl_y rfl (y_pick_f rfl rfl rfl) ?_
  refine gl_nil ?_
  refine gq_then' ?_
  refine gc_if rfl (fun h14 => ?_) (fun h14 => ?_)
  · have g14 := h14
    try (replace g14 := of_decide_eq_true g14)
    first
    | exact absurd h14 (by decide)
    | (exfalso; omega)
    | (exfalso; exact absurd rfl g14)
    | skip
      refine gc_seq ?_
      refine gc_region ?_
      refine gl_ef (ef_callq en_8 rfl (law_awake) perm_all (fun _ _ _ _ h => hK.le h) rfl) ?_
      rintro _ _ _ ⟨v15, rfl, rfl, rfl, rfl⟩
      refine gl_y rfl (y_assign rfl) ?_
      refine gl_nil ?_
      refine gq_then' ?_
      refine gc_ret ?_
      refine gq_pass_ret ?_
      refine gq_r1 rfl rfl perm_all ?_
      exact rfl
  · have g14 := h14
    try (replace g14 := of_decide_eq_false g14)
    first
    | exact absurd h14 (by decide)
    | (exfalso; omega)
    | (exfalso; exact absurd rfl g14)
    | skip
      refine gc_skip ?_
      refine gq_then' ?_
      refine gc_seq ?_
      refine gc_region ?_
      have hf : rfew l = true := by simpa using h14
      have ht := rfew_text hf
      have hl12 : l.length ≤ 12 := by simp only [rfew, Bool.and_eq_true, decide_eq_true_eq] at hf; exact hf.2
      have hE := encAll_few l hok ht
      refine gl_y rfl (y_move rfl) ?_
      refine gl_ef (ef_callm en_14 rfl (law_all _ _ l (by first | omega | (simp only [List.length_append, List.length_cons, List.length_nil, List.length_take, List.length_drop, List.length_map, List.length_replicate, List.length_set, u8s_length, fx_length, fixed_length, turn_length]; omega)) hok hR) perm_all rfl) ?_
      rintro _ _ _ ⟨v18, Mc18, rfl, rfl, rfl, rfl⟩
      refine gl_frz 0 rfl ?_
      rintro I18 a18 c18 hle18 rfl hR18
      replace hK := hK.le hle18
      replace hR := hR.mono hle18
      refine gl_ef (ef_callq en_10 rfl (keys_EncodeI _ _ l (by first | omega | (simp only [List.length_append, List.length_cons, List.length_nil, List.length_take, List.length_drop, List.length_map, List.length_replicate, List.length_set, u8s_length, fx_length, fixed_length, turn_length]; omega)) hok ht) perm_all (fun _ _ _ _ h => ⟨hK.le h, hR18.mono h⟩) rfl) ?_
      rintro _ _ _ ⟨v19, rfl, rfl, rfl, rfl⟩
      refine gl_y rfl (y_move rfl) ?_
      refine gl_y rfl (y_extract rfl rfl) ?_
      refine gl_y rfl (y_extract rfl rfl) ?_
      refine gl_y rfl (y_assign rfl) ?_
      refine gl_y rfl (y_assign rfl) ?_
      refine gl_nil ?_
      refine gq_then' ?_
      refine gc_seq ?_
      refine gc_region ?_
      refine gl_y rfl (y_move rfl) ?_
      refine gl_ef (ef_callm en_15 rfl (keys_DecodeI l (by first | omega | (simp only [List.length_append, List.length_cons, List.length_nil, List.length_take, List.length_drop, List.length_map, List.length_replicate, List.length_set, u8s_length, fx_length, fixed_length, turn_length]; omega)) hok ht) perm_all rfl) ?_
      rintro _ _ _ ⟨v24, Mc24, ⟨A24, rfl, rfl⟩, rfl, rfl, rfl⟩
      refine gl_frz 0 rfl ?_
      rintro I24 a24 c24 hle24 rfl hR24
      replace hK := hK.le hle24
      replace hR := hR.mono hle24
      refine gl_y rfl (y_move rfl) ?_
      refine gl_y rfl (y_extract rfl rfl) ?_
      refine gl_y rfl (y_extract rfl rfl) ?_
      refine gl_y rfl (y_assign rfl) ?_
      refine gl_y rfl (y_assign rfl) ?_
      refine gl_nil ?_
      refine gq_then' ?_
      refine gc_seq ?_
      refine gc_seq ?_
      refine gc_region ?_
      refine gl_y rfl (y_move rfl) ?_
      refine gl_y rfl (y_neq rfl rfl) ?_
      refine gl_y rfl (y_move rfl) ?_
      refine gl_if (t := 29) rfl (fun h29 => ?_) (fun h29 => ?_)
      · have g29 := h29
        try (replace g29 := of_decide_eq_true g29)
        first
        | exact absurd h29 (by decide)
        | (exfalso; omega)
        | (exfalso; exact absurd rfl g29)
        | skip
          refine gl_skip rfl rfl rfl h29 rfl ?_
          refine gl_skip rfl rfl rfl h29 rfl ?_
          refine gl_y rfl (y_pick_t rfl h29 rfl) ?_
          refine gl_y rfl (y_move rfl) ?_
          refine gl_skip rfl rfl rfl rfl rfl ?_
          refine gl_skip rfl rfl rfl rfl rfl ?_
          refine gl_skip rfl rfl rfl rfl rfl ?_
          refine gl_skip rfl rfl rfl rfl rfl ?_
          refine gl_y rfl (y_pick_t rfl rfl rfl) ?_
          refine gl_y rfl (y_move rfl) ?_
          refine gl_skip rfl rfl rfl rfl rfl ?_
          refine gl_skip rfl rfl rfl rfl rfl ?_
          refine gl_skip rfl rfl rfl rfl rfl ?_
          refine gl_skip rfl rfl rfl rfl rfl ?_
          refine gl_skip rfl rfl rfl rfl rfl ?_
          refine gl_y rfl (y_pick_t rfl rfl rfl) ?_
          refine gl_nil ?_
          refine gq_then' ?_
          refine gc_t rfl rfl ?_
          refine gc_seq ?_
          refine gc_region ?_
          refine gl_y rfl (y_assign rfl) ?_
          refine gl_nil ?_
          refine gq_then' ?_
          refine gc_ret ?_
          refine gq_pass_ret ?_
          refine gq_part perm_all ?_
          refine gq_ret1 rfl rfl (PH.le_trans hle18 hle24) ?_
          exact rfl
      · have g29 := h29
        try (replace g29 := of_decide_eq_false g29)
        first
        | exact absurd h29 (by decide)
        | (exfalso; omega)
        | (exfalso; exact absurd rfl g29)
        | skip
          refine gl_want rfl rfl rfl h29 ?_
          refine gl_y rfl (y_move rfl) ?_
          refine gl_want rfl rfl rfl h29 ?_
          refine gl_y rfl (y_neq rfl rfl) ?_
          refine gl_y rfl (y_pick_f rfl h29 rfl) ?_
          refine gl_y rfl (y_move rfl) ?_
          refine gl_if (t := 33) rfl (fun h33 => ?_) (fun h33 => ?_)
          · have g33 := h33
            try (replace g33 := of_decide_eq_true g33)
            first
            | exact absurd h33 (by decide)
            | (exfalso; omega)
            | (exfalso; exact absurd rfl g33)
            | skip
              refine gl_skip rfl rfl rfl h33 rfl ?_
              refine gl_skip rfl rfl rfl h33 rfl ?_
              refine gl_skip rfl rfl rfl h33 rfl ?_
              refine gl_skip rfl rfl rfl h33 rfl ?_
              refine gl_y rfl (y_pick_t rfl h33 rfl) ?_
              refine gl_y rfl (y_move rfl) ?_
              refine gl_skip rfl rfl rfl rfl rfl ?_
              refine gl_skip rfl rfl rfl rfl rfl ?_
              refine gl_skip rfl rfl rfl rfl rfl ?_
              refine gl_skip rfl rfl rfl rfl rfl ?_
              refine gl_skip rfl rfl rfl rfl rfl ?_
              refine gl_y rfl (y_pick_t rfl rfl rfl) ?_
              refine gl_nil ?_
              refine gq_then' ?_
              refine gc_t rfl rfl ?_
              refine gc_seq ?_
              refine gc_region ?_
              refine gl_y rfl (y_assign rfl) ?_
              refine gl_nil ?_
              refine gq_then' ?_
              refine gc_ret ?_
              refine gq_pass_ret ?_
              refine gq_part perm_all ?_
              refine gq_ret1 rfl rfl (PH.le_trans hle18 hle24) ?_
              exact rfl
          · have g33 := h33
            try (replace g33 := of_decide_eq_false g33)
            first
            | exact absurd h33 (by decide)
            | (exfalso; omega)
            | (exfalso; exact absurd rfl g33)
            | skip
              refine gl_want rfl rfl rfl h33 ?_
              refine gl_y rfl (y_move rfl) ?_
              refine gl_want rfl rfl rfl h33 ?_
              refine gl_y rfl (y_move rfl) ?_
              refine gl_want rfl rfl rfl h33 ?_
              refine gl_ef (ef_callq en_16 rfl (ref_Encode _ _ l (by first | omega | (simp only [List.length_append, List.length_cons, List.length_nil, List.length_take, List.length_drop, List.length_map, List.length_replicate, List.length_set, u8s_length, fx_length, fixed_length, turn_length]; omega)) hok ht) perm_all (fun _ _ _ _ h => hR.mono h) rfl) ?_
              rintro _ _ _ ⟨v36, rfl, rfl, rfl, rfl⟩
              refine gl_want rfl rfl rfl h33 ?_
              refine gl_y rfl (y_sneq rfl rfl) ?_
              refine gl_y rfl (y_pick_f rfl h33 rfl) ?_
              refine gl_y rfl (y_move rfl) ?_
              refine gl_if (t := 39) rfl (fun h39 => ?_) (fun h39 => ?_)
              · have g39 := h39
                try (replace g39 := of_decide_eq_true g39)
                first
                | exact absurd h39 (by decide)
                | (exfalso; omega)
                | (exfalso; exact absurd rfl g39)
                | skip
                  refine gl_skip rfl rfl rfl h39 rfl ?_
                  refine gl_skip rfl rfl rfl h39 rfl ?_
                  refine gl_skip rfl rfl rfl h39 rfl ?_
                  refine gl_skip rfl rfl rfl h39 rfl ?_
                  refine gl_skip rfl rfl rfl h39 rfl ?_
                  refine gl_y rfl (y_pick_t rfl h39 rfl) ?_
                  refine gl_nil ?_
                  refine gq_then' ?_
                  refine gc_t rfl rfl ?_
                  refine gc_seq ?_
                  refine gc_region ?_
                  refine gl_y rfl (y_assign rfl) ?_
                  refine gl_nil ?_
                  refine gq_then' ?_
                  refine gc_ret ?_
                  refine gq_pass_ret ?_
                  refine gq_part perm_all ?_
                  refine gq_ret1 rfl rfl (PH.le_trans hle18 hle24) ?_
                  exact rfl
              · have g39 := h39
                try (replace g39 := of_decide_eq_false g39)
                first
                | exact absurd h39 (by decide)
                | (exfalso; omega)
                | (exfalso; exact absurd rfl g39)
                | skip
                  refine gl_want rfl rfl rfl h39 ?_
                  refine gl_y rfl (y_move rfl) ?_
                  refine gl_want rfl rfl rfl h39 ?_
                  refine gl_y rfl (y_len Tryd.underlying36 rfl) ?_
                  refine gl_want rfl rfl rfl h39 ?_
                  refine gl_y rfl (y_move rfl) ?_
                  refine gl_want rfl rfl rfl h39 ?_
                  refine gl_y rfl (y_len Tryd.underlying27 rfl) ?_
                  refine gl_want rfl rfl rfl h39 ?_
                  refine gl_y rfl (y_neq rfl rfl) ?_
                  refine gl_y rfl (y_pick_f rfl h39 rfl) ?_
                  refine gl_nil ?_
                  refine gq_then' ?_
                  refine gc_if rfl (fun h45 => ?_) (fun h45 => ?_)
                  · have g45 := h45
                    try (replace g45 := of_decide_eq_true g45)
                    first
                    | exact absurd h45 (by decide)
                    | (exfalso; omega)
                    | (exfalso; exact absurd rfl g45)
                    | skip
                      refine gc_seq ?_
                      refine gc_region ?_
                      refine gl_y rfl (y_assign rfl) ?_
                      refine gl_nil ?_
                      refine gq_then' ?_
                      refine gc_ret ?_
                      refine gq_pass_ret ?_
                      refine gq_part perm_all ?_
                      refine gq_ret1 rfl rfl (PH.le_trans hle18 hle24) ?_
                      exact rfl
                  · have g45 := h45
                    try (replace g45 := of_decide_eq_false g45)
                    first
                    | exact absurd h45 (by decide)
                    | (exfalso; omega)
                    | (exfalso; exact absurd rfl g45)
                    | skip
                      refine gc_skip ?_
                      refine gq_then' ?_
                      refine gc_seq ?_
                      refine gc_seq ?_
                      refine gc_region ?_
                      refine gl_y rfl (y_assign rfl) ?_
                      refine gl_nil ?_
                      refine gq_then' ?_
                      refine gc_block ?_
                      refine gc_loopW (α := Nat) [46, 47, 48, 49, 52, 53, 54, 55, 56, 57, 58, 59, 60, 61, 2, 50, 51, 7] (fun (i : Nat) => [(7, .int .i64 (i : Int))]) (fun (i : Nat) => []) (fun (i : Nat) => i ≤ l.length) (fun (i : Nat) => l.length - i) 0 ?_ perm_all ?_ ?_
                      · exact Nat.zero_le _
                      · exact ⟨rfl, trivial⟩
                      · rintro i hi
                        refine gc_seq ?_
                        refine gc_seq ?_
                        refine gc_region ?_
                        refine gl_y rfl (y_move rfl) ?_
                        refine gl_y rfl (y_move rfl) ?_
                        refine gl_y rfl (y_len Tryd.underlying27 rfl) ?_
                        refine gl_y rfl (y_lss rfl rfl) ?_
                        refine gl_nil ?_
                        refine gq_then' ?_
                        refine gc_if rfl (fun h49 => ?_) (fun h49 => ?_)
                        · have g49 := h49
                          try (replace g49 := of_decide_eq_true g49)
                          first
                          | exact absurd h49 (by decide)
                          | (exfalso; omega)
                          | (exfalso; exact absurd rfl g49)
                          | skip
                            refine gc_skip ?_
                            refine gq_then' ?_
                            refine gc_seq ?_
                            refine gc_block ?_
                            refine gc_seq ?_
                            obtain ⟨a, ha⟩ : ∃ a, l[i]? = some a := ⟨_, List.getElem?_eq_getElem (by omega)⟩
                            have ham := List.mem_of_getElem? ha
                            obtain ⟨b, o, t, fz, cs, hA, hI, hc⟩ := hR.pos (by omega)
                            obtain ⟨b2, o2, t2, fz2, cs2, hA2, hI2, hc2⟩ := hR24.pos (by omega)
                            refine gc_region_draw (N := 10) [(b2, cs2), (b, cs)] rfl follows_mixed (by repeat (first | exact panicOk_body | refine panicOk_then ?_ | refine panicOk_in ?_)) (by kernel_rfl) ?_ ?_
                            · exact ⟨blk_known hI2, blk_known hI, trivial⟩
                            · skip
                              refine ga_y 0 rfl (by kernel_rfl) (by kernel_rfl) rfl (y_move rfl) ?_
                              refine ga_y 1 rfl (by kernel_rfl) (by kernel_rfl) rfl (y_move rfl) ?_
                              refine ga_y 2 rfl (by kernel_rfl) (by kernel_rfl) rfl (y_iaddrA Tryd.underlying36 sz_20 rfl hA2 rfl (by omega) (by omega)) ?_
                              refine ga_y 3 rfl (by kernel_rfl) (by kernel_rfl) rfl (y_load ag_20 rfl (blk_S (k := 0) rfl) (hc2 _ _ (itemVals_get l i a ha))) ?_
                              refine ga_y 4 rfl (by kernel_rfl) (by kernel_rfl) rfl (y_move rfl) ?_
                              refine ga_y 5 rfl (by kernel_rfl) (by kernel_rfl) rfl (y_move rfl) ?_
                              refine ga_y 6 rfl (by kernel_rfl) (by kernel_rfl) rfl (y_iaddrA Tryd.underlying27 sz_24 rfl hA rfl (by omega) (by omega)) ?_
                              refine ga_y 7 rfl (by kernel_rfl) (by kernel_rfl) rfl (y_loadA ag_24 sz_24 rfl (blk_S (k := 1) rfl) (vs := a.cells) rfl (ri_block hc i a ha)) ?_
                              refine ga_all1 (i := 8) (by kernel_rfl) ?_
                              · skip
                                refine gb_ef rfl (ef_callp en_11 rfl (law_value a (hok a ham)) rfl) ?_
                                rintro _ _ _ ⟨v60, rfl, rfl, rfl, rfl⟩
                                refine ⟨sat_S ⟨blk_known hI2, blk_known hI, trivial⟩, ?_⟩
                                refine ga_y 9 rfl (by kernel_rfl) (by kernel_rfl) rfl (y_ineq Tryd.underlying20 rfl rfl (item_ifc _) (item_ifc _) (eq_item a.item)) ?_
                                refine ga_done (by kernel_rfl) ?_
                                refine gq_then' ?_
                                refine gc_f rfl rfl ?_
                                refine gc_skip ?_
                                refine gq_in_normal ?_
                                refine gq_then' ?_
                                refine gc_region ?_
                                refine gl_y rfl (y_move rfl) ?_
                                first | refine gl_y rfl (y_add rfl rfl (wr_i64 (by omega) (by omega))) ?_ | refine gl_y rfl (y_add rfl rfl rfl) ?_
                                refine gl_y rfl (y_assign rfl) ?_
                                refine gl_nil ?_
                                refine gq_roundW (i + 1) ?_ ?_ perm_all rfl (by repeat (first | exact Ext.refl | refine Ext.cons rfl ?_)) ?_
                                · omega
                                · (show l.length - (i + 1) < l.length - i); omega
                                · exact ⟨rfl, trivial⟩
                        · have g49 := h49
                          try (replace g49 := of_decide_eq_false g49)
                          first
                          | exact absurd h49 (by decide)
                          | (exfalso; omega)
                          | (exfalso; exact absurd rfl g49)
                          | skip
                            refine gc_exit ?_
                            refine gq_pass_exit ?_
                            refine gq_pass_exit ?_
                            refine gq_in_exit ?_
                            refine gq_then' ?_
                            refine gc_seq ?_
                            refine gc_region ?_
                            refine gl_y rfl (y_assign rfl) ?_
                            refine gl_nil ?_
                            refine gq_then' ?_
                            refine gc_ret ?_
                            refine gq_part perm_all ?_
                            refine gq_ret1 rfl rfl (PH.le_trans hle18 hle24) ?_
                            exact rfl
end Go.Proofs.YtgoaclokjenpkaaDoorS
