/- keys: the reference's bytes of items and tuples. -/
import Derived.Test.YtgoaclokjenpkaaDoorSepFacts
import Derived.Test.YtgoaclokjenpkaaDoorSepQ
import Derived.Test.YtgoaclokjenpkaaDoorXKeyslaw
import Derived.Test.YtgoaclokjenpkaaDoorXKeysdec
set_option linter.unusedVariables false
set_option linter.unusedSimpArgs false
set_option maxRecDepth 20000
namespace Go.Proofs.YtgoaclokjenpkaaDoorS
open Go.RowKit Go.Proofs

theorem rem256 (m : Nat) : ((m : Nat) : Int).tmod 256 = ((m % 256 : Nat) : Int) := by rw [Int.tmod_eq_emod_of_nonneg (by omega)]; omega
theorem quo256 (n i : Nat) (h : n / 256 ^ i < 2 ^ 64) : IntKind.u64.wrap (((n / 256 ^ i : Nat) : Int).tdiv 256) = ((n / 256 ^ (i + 1) : Nat) : Int) := by
  rw [Nat.pow_succ, ← Nat.div_div_eq_div_mul]
  generalize n / 256 ^ i = m at *
  rw [Int.tdiv_eq_ediv_of_nonneg (Int.natCast_nonneg _), wr_u64] <;> omega
theorem byteAt_mod (n i : Nat) : UInt8.ofNat (n / 256 ^ i % 256) = byteAt n i := by
  apply UInt8.toNat_inj.1
  simp [byteAt, UInt8.toNat_ofNat']
theorem conv_byte (n i : Nat) : IntKind.u8.wrap ((n / 256 ^ i % 256 : Nat) : Int) = ((byteAt n i).toNat : Int) := by
  rw [wrap_u8_nat, byteAt_mod]
theorem div_pow_lt {n : Nat} (i : Nat) (h : n < 2 ^ 64) : n / 256 ^ i < 2 ^ 64 := Nat.lt_of_le_of_lt (Nat.div_le_self _ _) h

theorem ref_Fixed (n size : Nat) (big : Bool) (h1 : 1 ≤ size) (h8 : size ≤ 8) (hn : n < 2 ^ 64) : CtrP Tryd.prog 30 [.int .u64 n, .int .i64 size, .bool big] (fun v => v = .string (bs (fixed n size big))) := by
  refine CtrP.of fun I => ?_
  refine ctr_of Tryd.func30 rfl (n := 36) rfl rfl ?_
  intro G R
  simp only [argL]
  refine gc_seq ?_
  refine gc_region ?_
  refine gl_y rfl (y_assign rfl) ?_
  refine gl_nil ?_
  refine gq_then' ?_
  refine gc_seq ?_
  refine gc_region ?_
  refine gl_y rfl (y_move rfl) ?_
  refine gl_ef (ef_make Tryd.underlying39 tf_5 (m := size) rfl rfl (by omega) (by omega) rfl) ?_
  rintro _ _ _ ⟨b10, rfl, rfl, rfl⟩
  refine gl_y rfl (y_assign rfl) ?_
  refine gl_nil ?_
  refine gq_then' ?_
  refine gc_seq ?_
  refine gc_seq ?_
  refine gc_region ?_
  refine gl_y rfl (y_assign rfl) ?_
  refine gl_nil ?_
  refine gq_then' ?_
  refine gc_block ?_
  rw [made_u8, ← fx_zero n size big]
  refine gc_loopW (α := Nat) [11, 12, 13, 16, 17, 18, 19, 20, 21, 22, 23, 24, 25, 26, 27, 28, 29, 30, 31, 32, 33, 0, 14, 15, 8] (fun (i : Nat) => [(8, .int .i64 (i : Int)), (0, .int .u64 ((n / 256 ^ i : Nat) : Int))]) (fun (i : Nat) => [cl b10 5 (u8s (fx n size big i))]) (fun (i : Nat) => i ≤ size) (fun (i : Nat) => size - i) 0 ?_ perm_same ?_ ?_
  · exact Nat.zero_le _
  · exact ⟨rfl, congrArg (fun m : Nat => some (Value.int .u64 (m : Int))) (by simp), trivial⟩
  · rintro i hi
    have hq := div_pow_lt i hn
    refine gc_seq ?_
    refine gc_seq ?_
    refine gc_region ?_
    refine gl_y rfl (y_move rfl) ?_
    refine gl_y rfl (y_move rfl) ?_
    refine gl_y rfl (y_lss rfl rfl) ?_
    refine gl_nil ?_
    refine gq_then' ?_
    refine gc_if rfl (fun h13 => ?_) (fun h13 => ?_)
    · have g13 := h13
      try (replace g13 := of_decide_eq_true g13)
      first
      | exact absurd h13 (by decide)
      | (exfalso; omega)
      | skip
        refine gc_skip ?_
        refine gq_then' ?_
        refine gc_seq ?_
        refine gc_block ?_
        refine gc_seq ?_
        refine gc_seq ?_
        refine gc_region ?_
        refine gl_y rfl (y_move rfl) ?_
        refine gl_nil ?_
        refine gq_then' ?_
        refine gc_if rfl (fun h16 => ?_) (fun h16 => ?_)
        · have g16 := h16
          try (replace g16 := of_decide_eq_true g16)
          first
          | exact absurd h16 (by decide)
          | (exfalso; omega)
          | skip
            refine gc_region ?_
            refine gl_y rfl (y_move rfl) ?_
            refine gl_y rfl (y_move rfl) ?_
            first | refine gl_y rfl (y_sub rfl rfl (wr_i64 (by omega) (by omega))) ?_ | refine gl_y rfl (y_sub rfl rfl rfl) ?_
            refine gl_y rfl (y_move rfl) ?_
            first | refine gl_y rfl (y_sub rfl rfl (wr_i64 (by omega) (by omega))) ?_ | refine gl_y rfl (y_sub rfl rfl rfl) ?_
            refine gl_y rfl (y_move rfl) ?_
            refine gl_y rfl (y_rem rfl rfl (by omega) (rem256 _)) ?_
            refine gl_y rfl (y_conv Tryd.underlying22 Tryd.underlying5 rfl (conv_byte n i)) ?_
            refine gl_y rfl (y_iaddr Tryd.underlying39 sz_5 rfl rfl (by omega) (by first | omega | (simp only [List.length_append, List.length_cons, List.length_nil, List.length_take, List.length_drop, List.length_map, List.length_replicate, List.length_set, u8s_length, fx_length, fixed_length, turn_length]; omega))) ?_
            refine gl_ef (ef_store sz_5 rfl rfl rfl (i := 0) rfl (by first | rfl | exact blt_of (by first | omega | (simp only [List.length_append, List.length_cons, List.length_nil, List.length_take, List.length_drop, List.length_map, List.length_replicate, List.length_set, u8s_length, fx_length, fixed_length, turn_length]; omega)))) ?_
            rintro _ _ _ ⟨rfl, rfl, rfl⟩
            refine gl_nil ?_
            refine gq_then' ?_
            refine gc_region ?_
            refine gl_y rfl (y_move rfl) ?_
            refine gl_y rfl (y_quo rfl rfl (by omega) (quo256 n i hq)) ?_
            refine gl_y rfl (y_assign rfl) ?_
            refine gl_nil ?_
            refine gq_in_normal ?_
            refine gq_then' ?_
            refine gc_region ?_
            refine gl_y rfl (y_move rfl) ?_
            first | refine gl_y rfl (y_add rfl rfl (wr_i64 (by omega) (by omega))) ?_ | refine gl_y rfl (y_add rfl rfl rfl) ?_
            refine gl_y rfl (y_assign rfl) ?_
            refine gl_nil ?_
            refine gq_M (M2 := [cl b10 5 (u8s (fx n size big (i + 1)))]) (congrArg (fun l => [cl b10 5 l]) ((u8s_set _ _ _).trans (congrArg u8s ?_))) ?_
            · rw [← fx_succ n size big i (by omega), h16]; congr 1; simp <;> omega
            refine gq_roundW (i + 1) ?_ ?_ perm_same rfl (by repeat (first | exact Ext.refl | refine Ext.cons rfl ?_)) ?_
            · omega
            · (show size - (i + 1) < size - i); omega
            · exact ⟨rfl, rfl, trivial⟩
        · have g16 := h16
          try (replace g16 := of_decide_eq_false g16)
          first
          | exact absurd h16 (by decide)
          | (exfalso; omega)
          | skip
            refine gc_region ?_
            refine gl_y rfl (y_move rfl) ?_
            refine gl_y rfl (y_move rfl) ?_
            refine gl_y rfl (y_move rfl) ?_
            refine gl_y rfl (y_rem rfl rfl (by omega) (rem256 _)) ?_
            refine gl_y rfl (y_conv Tryd.underlying22 Tryd.underlying5 rfl (conv_byte n i)) ?_
            refine gl_y rfl (y_iaddr Tryd.underlying39 sz_5 rfl rfl (by omega) (by first | omega | (simp only [List.length_append, List.length_cons, List.length_nil, List.length_take, List.length_drop, List.length_map, List.length_replicate, List.length_set, u8s_length, fx_length, fixed_length, turn_length]; omega))) ?_
            refine gl_ef (ef_store sz_5 rfl rfl rfl (i := 0) rfl (by first | rfl | exact blt_of (by first | omega | (simp only [List.length_append, List.length_cons, List.length_nil, List.length_take, List.length_drop, List.length_map, List.length_replicate, List.length_set, u8s_length, fx_length, fixed_length, turn_length]; omega)))) ?_
            rintro _ _ _ ⟨rfl, rfl, rfl⟩
            refine gl_nil ?_
            refine gq_then' ?_
            refine gc_region ?_
            refine gl_y rfl (y_move rfl) ?_
            refine gl_y rfl (y_quo rfl rfl (by omega) (quo256 n i hq)) ?_
            refine gl_y rfl (y_assign rfl) ?_
            refine gl_nil ?_
            refine gq_in_normal ?_
            refine gq_then' ?_
            refine gc_region ?_
            refine gl_y rfl (y_move rfl) ?_
            first | refine gl_y rfl (y_add rfl rfl (wr_i64 (by omega) (by omega))) ?_ | refine gl_y rfl (y_add rfl rfl rfl) ?_
            refine gl_y rfl (y_assign rfl) ?_
            refine gl_nil ?_
            refine gq_M (M2 := [cl b10 5 (u8s (fx n size big (i + 1)))]) (congrArg (fun l => [cl b10 5 l]) ((u8s_set _ _ _).trans (congrArg u8s ?_))) ?_
            · rw [← fx_succ n size big i (by omega), h16]; congr 1; simp
            refine gq_roundW (i + 1) ?_ ?_ perm_same rfl (by repeat (first | exact Ext.refl | refine Ext.cons rfl ?_)) ?_
            · omega
            · (show size - (i + 1) < size - i); omega
            · exact ⟨rfl, rfl, trivial⟩
    · have g13 := h13
      try (replace g13 := of_decide_eq_false g13)
      first
      | exact absurd h13 (by decide)
      | (exfalso; omega)
      | skip
        refine gc_exit ?_
        refine gq_pass_exit ?_
        refine gq_pass_exit ?_
        refine gq_in_exit ?_
        refine gq_then' ?_
        refine gc_seq ?_
        refine gc_region ?_
        refine gl_y rfl (y_move rfl) ?_
        obtain rfl : i = size := by omega
        rw [fx_all]
        refine gl_y rfl (y_tostr (bytes := fixed n i big) Tryd.underlying39 Tryd.underlying5 Tryd.underlying9 rfl (blk_own (i := 0) rfl) (fixed_length _ _ _) u8s_get0) ?_
        refine gl_y rfl (y_assign rfl) ?_
        refine gl_nil ?_
        refine gq_then' ?_
        refine gc_ret ?_
        refine gq_r1 rfl rfl perm_all ?_
        exact rfl

theorem ri_block {cs : List Value} {o : Nat} {l : List RI} (hc : ∀ j u, ((l.map RI.cells).flatten)[j]? = some u → cs[o + j]? = some u) (i : Nat) (a : RI) (ha : l[i]? = some a) : ∀ j u, a.cells[j]? = some u → cs[o + (i : Int).toNat * 5 + j]? = some u := by
  intro j u h
  rw [Nat.add_assoc]
  have hj : j < 5 := (List.getElem?_eq_some_iff.1 h).1
  exact hc _ _ ((ri_cells l i j a ha hj).trans h)
def itemVals (l : List RI) : List Value := l.map fun r => r.item.val
theorem osl_snocI (e : Nat) (v : Value) (l : List RI) (i : Nat) (a : RI) (ha : l[i]? = some a) : osl e 1 v (i + 1) (itemVals (l.take i) ++ [a.item.val]) = osl e 1 v (i + 1) (itemVals (l.take (i + 1))) := by
  simp [itemVals, List.take_add_one, ha]

theorem law_all {I : PH} (A : Option Addr) (c : Nat) (l : List RI) (hl : l.length ≤ 1000000) (hok : ∀ r ∈ l, r.ok) (hR : Rsl I 5 A l.length ((l.map RI.cells).flatten)) : Ctr Tryd.prog 14 [.slice A l.length c] I [] (fun v _ M' => M' = [osl 20 1 v l.length (itemVals l)]) := by
  refine ctr_of Tryd.func14 rfl (n := 20) rfl rfl ?_
  intro G R
  simp only [argL]
  refine gc_seq ?_
  refine gc_region ?_
  refine gl_y rfl (y_assign rfl) ?_
  refine gl_nil ?_
  refine gq_then' ?_
  refine gc_seq ?_
  refine gc_region ?_
  refine gl_y rfl (y_assign rfl) ?_
  refine gl_nilslice 20 1 ?_
  refine gl_nil ?_
  refine gq_then' ?_
  refine gc_seq ?_
  refine gc_seq ?_
  refine gc_region ?_
  refine gl_y rfl (y_assign rfl) ?_
  refine gl_nil ?_
  refine gq_then' ?_
  refine gc_block ?_
  refine gc_loopW (α := Nat × Value) [5, 6, 7, 8, 11, 12, 13, 14, 15, 16, 17, 18, 3, 9, 10, 4] (fun (⟨i, v⟩ : Nat × Value) => [(4, .int .i64 (i : Int)), (3, v)]) (fun (⟨i, v⟩ : Nat × Value) => [osl 20 1 v i (itemVals (l.take i))]) (fun (⟨i, v⟩ : Nat × Value) => i ≤ l.length) (fun (⟨i, v⟩ : Nat × Value) => l.length - i) (0, .slice none 0 0) ?_ perm_same ?_ ?_
  · exact Nat.zero_le _
  · exact ⟨rfl, rfl, trivial⟩
  · rintro ⟨i, v⟩ hi
    have hi : i ≤ l.length := hi
    refine gc_seq ?_
    refine gc_seq ?_
    refine gc_region ?_
    refine gl_y rfl (y_move rfl) ?_
    refine gl_y rfl (y_move rfl) ?_
    refine gl_y rfl (y_len Tryd.underlying27 rfl) ?_
    refine gl_y rfl (y_lss rfl rfl) ?_
    refine gl_nil ?_
    refine gq_then' ?_
    refine gc_if rfl (fun h8 => ?_) (fun h8 => ?_)
    · have g8 := h8
      try (replace g8 := of_decide_eq_true g8)
      first
      | exact absurd h8 (by decide)
      | (exfalso; omega)
      | skip
        refine gc_skip ?_
        refine gq_then' ?_
        refine gc_seq ?_
        refine gc_block ?_
        refine gc_region ?_
        refine gl_y rfl (y_move rfl) ?_
        refine gl_y rfl (y_move rfl) ?_
        refine gl_y rfl (y_move rfl) ?_
        obtain ⟨a, ha⟩ : ∃ a, l[i]? = some a := ⟨_, List.getElem?_eq_getElem (by omega)⟩
        have ham := List.mem_of_getElem? ha
        obtain ⟨b, o, t, fz, cs, hA, hI, hc⟩ := hR.pos (by omega)
        refine gl_y rfl (y_iaddrA Tryd.underlying27 sz_24 rfl hA rfl (by omega) (by omega)) ?_
        refine gl_y rfl (y_loadA ag_24 sz_24 rfl (blk_known hI) (vs := a.cells) rfl (ri_block hc i a ha)) ?_
        refine gl_ef (ef_callp en_11 rfl (law_value a (hok a ham)) rfl) ?_
        rintro _ _ _ ⟨v16, rfl, rfl, rfl, rfl⟩
        refine gl_ef (ef_buildSlice Tryd.underlying36 sz_20 zr_20 rfl rfl rfl (cs := [_]) (zl := [_]) rfl rfl (fill1 (KItem.val_one _)) rfl) ?_
        rintro _ _ _ ⟨b17, rfl, rfl, rfl⟩
        refine gl_ef (ef_append Tryd.underlying36 tf_20 rfl (i := 0) rfl rfl (src_all (blk_own (i := 1) rfl)) rfl (by simp [KItem.val_one]) (by first | omega | (simp only [List.length_append, List.length_cons, List.length_nil, List.length_take, List.length_drop, List.length_map, List.length_replicate, List.length_set, u8s_length, fx_length, fixed_length, turn_length]; omega)) (by first | omega | (simp only [List.length_append, List.length_cons, List.length_nil, List.length_take, List.length_drop, List.length_map, List.length_replicate, List.length_set, u8s_length, fx_length, fixed_length, turn_length]; omega)) rfl) ?_
        rintro _ _ _ ⟨v18, rfl, rfl, rfl⟩
        refine gl_y rfl (y_assign rfl) ?_
        refine gl_nilslice 20 1 ?_
        refine gl_nil ?_
        refine gq_in_normal ?_
        refine gq_then' ?_
        refine gc_region ?_
        refine gl_y rfl (y_move rfl) ?_
        first | refine gl_y rfl (y_add rfl rfl (wr_i64 (by omega) (by omega))) ?_ | refine gl_y rfl (y_add rfl rfl rfl) ?_
        refine gl_y rfl (y_assign rfl) ?_
        refine gl_nil ?_
        refine gq_M (congrArg (fun e => e :: _) (osl_snocI _ v18 l i a ha)) ?_
        refine gq_roundW (x := (⟨i, v⟩ : Nat × Value)) (i + 1, v18) ?_ ?_ (perm_one (i := 0) rfl) rfl (by repeat (first | exact Ext.refl | refine Ext.cons rfl ?_)) ?_
        · (show i + 1 ≤ l.length); omega
        · (show l.length - (i + 1) < l.length - i); omega
        · exact ⟨rfl, rfl, trivial⟩
    · have g8 := h8
      try (replace g8 := of_decide_eq_false g8)
      first
      | exact absurd h8 (by decide)
      | (exfalso; omega)
      | skip
        refine gc_exit ?_
        refine gq_pass_exit ?_
        refine gq_pass_exit ?_
        refine gq_in_exit ?_
        refine gq_then' ?_
        refine gc_seq ?_
        refine gc_region ?_
        refine gl_y rfl (y_move rfl) ?_
        refine gl_y rfl (y_assign rfl) ?_
        refine gl_nil ?_
        refine gq_then' ?_
        refine gc_ret ?_
        obtain rfl : i = l.length := by omega
        refine gq_r1 rfl rfl perm_same ?_
        show [osl _ 1 v l.length (itemVals (l.take l.length))] = _
        rw [List.take_length]

def tagOf (k : Nat) : UInt8 := if k = 1 then 32 else if k = 2 then 33 else if k = 3 then 48 else if k = 4 then 64 else if k = 5 then 80 else 16
theorem tag_get (k : Nat) : ([.int .u8 16, .int .u8 32, .int .u8 33, .int .u8 48, .int .u8 64, .int .u8 80] : List Value)[((k % 6 : Nat) : Int).toNat]? = some (.int .u8 ((tagOf (k % 6)).toNat : Int)) := by
  have : k % 6 = 0 ∨ k % 6 = 1 ∨ k % 6 = 2 ∨ k % 6 = 3 ∨ k % 6 = 4 ∨ k % 6 = 5 := by omega
  rcases this with e | e | e | e | e | e <;> rw [e] <;> rfl
theorem sign_add (n : Int) (h0 : -9223372036854775808 ≤ n) (h1 : n ≤ 9223372036854775807) : IntKind.u64.wrap (IntKind.u64.wrap n + 9223372036854775808) = (((n + 9223372036854775808).toNat : Nat) : Int) := by
  simp only [IntKind.wrap, IntKind.bits, IntKind.signed]
  simp
  omega
theorem esc_take (l : List UInt8) (i : Nat) (h : i < l.length) : esc (l.take (i + 1)) = esc (l.take i) ++ (if at8 l (i : Int) = 0 then [0, 255] else [at8 l (i : Int)]) := by
  have hap : ∀ x y : List UInt8, esc (x ++ y) = esc x ++ esc y := by
    intro x y
    induction x with
    | nil => rfl
    | cons c x ih => simp only [List.cons_append, esc]; split <;> simp [ih]
  have e : at8 l (i : Int) = l[i] := by simp [at8, h]
  rw [List.take_add_one, List.getElem?_eq_getElem h, hap, e]
  congr 1
theorem esc_take_len (l : List UInt8) (i : Nat) : (esc (l.take i)).length ≤ 2 * l.length := by
  have := (esc_length (l.take i)).2
  simp at this ⊢
  omega
theorem sub255 (c : UInt8) : IntKind.u8.wrap (255 - (c.toNat : Int)) = ((255 - c).toNat : Int) := by
  have h := c.toNat_lt
  rw [turn_head, wr_u8] <;> omega
theorem kit_enc3 (r : RI) (h : r.kind % 6 = 3) : r.kit.enc = 48 :: fixed (r.int + 9223372036854775808).toNat 8 true := by simp [RI.kit, h, KIt.enc]
theorem kit_enc4 (r : RI) (h : r.kind % 6 = 4) : r.kit.enc = 64 :: fixed r.uint 8 true := by simp [RI.kit, h, KIt.enc]
theorem kit_enc5 (r : RI) (h : r.kind % 6 = 5) : r.kit.enc = 80 :: (esc r.text ++ [0, 0]) := by simp [RI.kit, h, KIt.enc]
theorem kit_enc0 (r : RI) (h : r.kind % 6 ≠ 3 ∧ r.kind % 6 ≠ 4 ∧ r.kind % 6 ≠ 5) : r.kit.enc = [tagOf (r.kind % 6)] := by
  have : r.kind % 6 = 0 ∨ r.kind % 6 = 1 ∨ r.kind % 6 = 2 := by omega
  rcases this with e | e | e <;> simp [RI.kit, e, KIt.enc, tagOf]
theorem bytes_end (r : RI) (i : Nat) (hi : i ≤ r.kit.enc.length) (hd : r.down = false → i = 0) (hp : 0 < r.kit.enc.length) (h : i = r.kit.enc.length ∨ r.down = false) : Value.string (bs (turn (r.kit.enc.take i) ++ r.kit.enc.drop i)) = .string (bs r.item.enc) := by
  cases e : r.down with
  | false =>
    have := hd e
    subst this
    simp [RI.item, KItem.enc, e, turn]
  | true =>
    have h := h.resolve_right (by rw [e]; decide)
    subst h
    simp [RI.item, KItem.enc, e]
theorem osl_u8 (e n : Nat) (v : Value) (l : List UInt8) (xs : List Value) (hn : n = l.length) (hx : xs = u8s l) : osl e 1 v n xs = osl e 1 v l.length (u8s l) := by rw [hn, hx]

theorem ref_Bytes (r : RI) (hr : r.ok) (ht : r.text.length ≤ 1048576) : CtrP Tryd.prog 23 [.agg r.cells.toArray] (fun v => v = .string (bs r.item.enc)) := by
  obtain ⟨hk, hi0, hi1, hu⟩ := hr
  have hE := (esc_length r.text).2
  have hX := KIt.enc_len r.kit (RI.item_ok r ⟨hk, hi0, hi1, hu⟩ ht)
  have hX1 : 0 < r.kit.enc.length := by obtain ⟨c, s, h, _⟩ := KIt.enc_head r.kit; rw [h]; simp
  refine CtrP.of fun I => ?_
  refine ctr_of Tryd.func23 rfl (n := 80) rfl rfl ?_
  intro G R
  simp only [argL]
  refine gc_seq ?_
  refine gc_region ?_
  refine gl_ef (ef_box rfl (l := [_, _, _, _, _]) rfl rfl) ?_
  rintro _ _ _ ⟨b1, rfl, rfl, rfl⟩
  refine gl_y rfl (y_assign rfl) ?_
  refine gl_nil ?_
  refine gq_then' ?_
  refine gc_seq ?_
  refine gc_region ?_
  refine gl_y rfl (y_buildA Tryd.underlying63 sz_5 zr_63 rfl (cs := [_, _, _, _, _, _]) rfl) ?_
  refine gl_y rfl (y_faddr fo_24_0 rfl) ?_
  refine gl_y rfl (y_load ag_5 rfl (blk_own (i := 0) rfl) rfl) ?_
  refine gl_y rfl (y_rem rfl rfl (by omega) (rem6 _ hk)) ?_
  refine gl_y rfl (y_aindex Tryd.underlying63 sz_5 ag_5 rfl rfl (by omega) (by omega) (tag_get r.kind)) ?_
  refine gl_ef (ef_buildSliceO Tryd.underlying39 sz_5 zr_5 rfl rfl rfl (cs := [_]) (zl := [_]) rfl rfl rfl rfl rfl rfl) ?_
  rintro _ _ _ ⟨v12, rfl, rfl, rfl⟩
  refine gl_y rfl (y_assign rfl) ?_
  refine gl_nil ?_
  refine gq_then' ?_
  refine gc_seq ?_
  refine gc_seq ?_
  refine gc_region ?_
  refine gl_y rfl (y_faddr fo_24_0 rfl) ?_
  refine gl_y rfl (y_load ag_5 rfl (blk_own (i := 0) rfl) rfl) ?_
  refine gl_y rfl (y_rem rfl rfl (by omega) (rem6 _ hk)) ?_
  refine gl_nil ?_
  refine gq_then' ?_
  refine gc_block ?_
  refine gc_seq ?_
  refine gc_region ?_
  refine gl_y rfl (y_eql rfl rfl) ?_
  refine gl_y rfl (y_assign rfl) ?_
  refine gl_nil ?_
  refine gq_then' ?_
  refine gc_if rfl (fun h16 => ?_) (fun h16 => ?_)
  · have g16 := h16
    try (replace g16 := of_decide_eq_true g16)
    first
    | exact absurd h16 (by decide)
    | (exfalso; omega)
    | skip
      refine gc_seq ?_
      refine gc_region ?_
      refine gl_y rfl (y_faddr fo_24_1 rfl) ?_
      refine gl_y rfl (y_load ag_2 rfl (blk_own (i := 0) rfl) rfl) ?_
      refine gl_y rfl (y_conv Tryd.underlying2 Tryd.underlying22 rfl rfl) ?_
      refine gl_y rfl (y_add rfl rfl (sign_add _ hi0 hi1)) ?_
      refine gl_y rfl (y_assign rfl) ?_
      refine gl_nil ?_
      refine gq_then' ?_
      refine gc_region ?_
      refine gl_y rfl (y_move rfl) ?_
      refine gl_y rfl (y_move rfl) ?_
      refine gl_ef (ef_callp en_30 rfl (ref_Fixed (r.int + 9223372036854775808).toNat 8 true (by first | omega | (simp only [List.length_append, List.length_cons, List.length_nil, List.length_take, List.length_drop, List.length_map, List.length_replicate, List.length_set, u8s_length, fx_length, fixed_length, turn_length]; omega)) (by first | omega | (simp only [List.length_append, List.length_cons, List.length_nil, List.length_take, List.length_drop, List.length_map, List.length_replicate, List.length_set, u8s_length, fx_length, fixed_length, turn_length]; omega)) (by first | omega | (simp only [List.length_append, List.length_cons, List.length_nil, List.length_take, List.length_drop, List.length_map, List.length_replicate, List.length_set, u8s_length, fx_length, fixed_length, turn_length]; omega))) rfl) ?_
      rintro _ _ _ ⟨v24, rfl, rfl, rfl, rfl⟩
      refine gl_ef (ef_append_str Tryd.underlying39 Tryd.underlying9 tf_5 rfl (i := 1) rfl rfl (by first | omega | (simp only [List.length_append, List.length_cons, List.length_nil, List.length_take, List.length_drop, List.length_map, List.length_replicate, List.length_set, u8s_length, fx_length, fixed_length, turn_length]; omega)) rfl) ?_
      rintro _ _ _ ⟨v25, rfl, rfl, rfl⟩
      refine gl_y rfl (y_assign rfl) ?_
      refine gl_nil ?_
      refine gq_in_normal ?_
      refine gq_then' ?_
      refine gc_seq ?_
      refine gc_seq ?_
      refine gc_M (congrArg (fun e => _ :: e :: _) (osl_u8 _ _ v25 r.kit.enc _ (by rw [kit_enc3 r (by omega)]; simp [fixed_length]) (by rw [kit_enc3 r (by omega), show tagOf (r.kind % 6) = 48 from by rw [show r.kind % 6 = 3 by omega]; rfl]; rfl))) ?_
      refine gc_unosl 1 rfl hX1 ?_
      rintro gg cc jj rfl
      refine gc_region ?_
      refine gl_y rfl (y_assign rfl) ?_
      refine gl_nil ?_
      refine gq_then' ?_
      refine gc_block ?_
      refine gc_loopW (α := Nat) [60, 61, 62, 63, 64, 65, 66, 67, 70, 71, 72, 73, 74, 75, 76, 77, 68, 69, 6] (fun (i : Nat) => [(6, .int .i64 (i : Int))]) (fun (i : Nat) => [cl b1 24 r.cells, cl gg 5 (u8s (turn (r.kit.enc.take i) ++ r.kit.enc.drop i) ++ jj)]) (fun (i : Nat) => i ≤ r.kit.enc.length ∧ (r.down = false → i = 0)) (fun (i : Nat) => r.kit.enc.length - i) 0 ?_ perm_same ?_ ?_
      · exact ⟨Nat.zero_le _, fun _ => rfl⟩
      · exact ⟨rfl, trivial⟩
      · rintro i ⟨hi, hd⟩
        refine gc_seq ?_
        refine gc_seq ?_
        refine gc_region ?_
        refine gl_y rfl (y_move rfl) ?_
        refine gl_y rfl (y_move rfl) ?_
        refine gl_y rfl (y_len Tryd.underlying39 rfl) ?_
        refine gl_y rfl (y_lss rfl rfl) ?_
        refine gl_y rfl (y_move rfl) ?_
        refine gl_if (t := 64) rfl (fun h64 => ?_) (fun h64 => ?_)
        · have g64 := h64
          try (replace g64 := of_decide_eq_true g64)
          first
          | exact absurd h64 (by decide)
          | (exfalso; omega)
          | skip
            refine gl_want rfl rfl rfl h64 ?_
            refine gl_y rfl (y_faddr fo_24_4 rfl) ?_
            refine gl_want rfl rfl rfl h64 ?_
            refine gl_y rfl (y_load ag_4 rfl (blk_own (i := 0) rfl) rfl) ?_
            refine gl_y rfl (y_pick_t rfl h64 rfl) ?_
            refine gl_nil ?_
            refine gq_then' ?_
            refine gc_if rfl (fun h67 => ?_) (fun h67 => ?_)
            · have g67 := h67
              try (replace g67 := of_decide_eq_true g67)
              first
              | exact absurd h67 (by decide)
              | (exfalso; omega)
              | skip
                refine gc_skip ?_
                refine gq_then' ?_
                refine gc_seq ?_
                refine gc_block ?_
                refine gc_region ?_
                refine gl_y rfl (y_move rfl) ?_
                refine gl_y rfl (y_move rfl) ?_
                refine gl_y rfl (y_move rfl) ?_
                refine gl_y rfl (y_move rfl) ?_
                refine gl_y rfl (y_iaddr Tryd.underlying39 sz_5 rfl rfl (by omega) (by first | omega | (simp only [List.length_append, List.length_cons, List.length_nil, List.length_take, List.length_drop, List.length_map, List.length_replicate, List.length_set, u8s_length, fx_length, fixed_length, turn_length]; omega))) ?_
                refine gl_y rfl (y_load ag_5 rfl (blk_own (i := 1) rfl) (turn_at r.kit.enc jj i (by omega))) ?_
                refine gl_y rfl (y_sub rfl rfl (sub255 _)) ?_
                refine gl_y rfl (y_iaddr Tryd.underlying39 sz_5 rfl rfl (by omega) (by first | omega | (simp only [List.length_append, List.length_cons, List.length_nil, List.length_take, List.length_drop, List.length_map, List.length_replicate, List.length_set, u8s_length, fx_length, fixed_length, turn_length]; omega))) ?_
                refine gl_ef (ef_store sz_5 rfl rfl rfl (i := 1) rfl (by first | rfl | exact blt_of (by first | omega | (simp only [List.length_append, List.length_cons, List.length_nil, List.length_take, List.length_drop, List.length_map, List.length_replicate, List.length_set, u8s_length, fx_length, fixed_length, turn_length]; omega)))) ?_
                rintro _ _ _ ⟨rfl, rfl, rfl⟩
                refine gl_nil ?_
                refine gq_in_normal ?_
                refine gq_then' ?_
                refine gc_region ?_
                refine gl_y rfl (y_move rfl) ?_
                first | refine gl_y rfl (y_add rfl rfl (wr_i64 (by omega) (by omega))) ?_ | refine gl_y rfl (y_add rfl rfl rfl) ?_
                refine gl_y rfl (y_assign rfl) ?_
                refine gl_nil ?_
                refine gq_M (congrArg (fun l => [_, cl gg 5 l]) (turn_step r.kit.enc jj i (by omega))) ?_
                refine gq_roundW (i + 1) ?_ ?_ perm_same rfl (by repeat (first | exact Ext.refl | refine Ext.cons rfl ?_)) ?_
                · exact ⟨by omega, fun h => by rw [h] at h67; cases h67⟩
                · (show r.kit.enc.length - (i + 1) < r.kit.enc.length - i); omega
                · exact ⟨rfl, trivial⟩
            · have g67 := h67
              try (replace g67 := of_decide_eq_false g67)
              first
              | exact absurd h67 (by decide)
              | (exfalso; omega)
              | skip
                refine gc_exit ?_
                refine gq_pass_exit ?_
                refine gq_pass_exit ?_
                refine gq_in_exit ?_
                refine gq_then' ?_
                refine gc_seq ?_
                refine gc_region ?_
                refine gl_y rfl (y_move rfl) ?_
                refine gl_y rfl (y_tostr (bytes := turn (r.kit.enc.take i) ++ r.kit.enc.drop i) Tryd.underlying39 Tryd.underlying5 Tryd.underlying9 rfl (blk_own (i := 1) rfl) (by simp [turn]; omega) u8s_get) ?_
                refine gl_y rfl (y_assign rfl) ?_
                refine gl_nil ?_
                refine gq_then' ?_
                refine gc_ret ?_
                refine gq_r1 rfl rfl perm_all ?_
                exact bytes_end r i hi hd hX1 (by first | exact .inr g67 | exact .inl (by omega))
        · have g64 := h64
          try (replace g64 := of_decide_eq_false g64)
          first
          | exact absurd h64 (by decide)
          | (exfalso; omega)
          | skip
            refine gl_skip rfl rfl rfl h64 rfl ?_
            refine gl_skip rfl rfl rfl h64 rfl ?_
            refine gl_y rfl (y_pick_f rfl h64 rfl) ?_
            refine gl_nil ?_
            refine gq_then' ?_
            refine gc_f rfl rfl ?_
            refine gc_exit ?_
            refine gq_pass_exit ?_
            refine gq_pass_exit ?_
            refine gq_in_exit ?_
            refine gq_then' ?_
            refine gc_seq ?_
            refine gc_region ?_
            refine gl_y rfl (y_move rfl) ?_
            refine gl_y rfl (y_tostr (bytes := turn (r.kit.enc.take i) ++ r.kit.enc.drop i) Tryd.underlying39 Tryd.underlying5 Tryd.underlying9 rfl (blk_own (i := 1) rfl) (by simp [turn]; omega) u8s_get) ?_
            refine gl_y rfl (y_assign rfl) ?_
            refine gl_nil ?_
            refine gq_then' ?_
            refine gc_ret ?_
            refine gq_r1 rfl rfl perm_all ?_
            exact bytes_end r i hi hd hX1 (by first | exact .inr g67 | exact .inl (by omega))
  · have g16 := h16
    try (replace g16 := of_decide_eq_false g16)
    first
    | exact absurd h16 (by decide)
    | (exfalso; omega)
    | skip
      refine gc_seq ?_
      refine gc_region ?_
      refine gl_y rfl (y_eql rfl rfl) ?_
      refine gl_y rfl (y_assign rfl) ?_
      refine gl_nil ?_
      refine gq_then' ?_
      refine gc_if rfl (fun h26 => ?_) (fun h26 => ?_)
      · have g26 := h26
        try (replace g26 := of_decide_eq_true g26)
        first
        | exact absurd h26 (by decide)
        | (exfalso; omega)
        | skip
          refine gc_region ?_
          refine gl_y rfl (y_move rfl) ?_
          refine gl_y rfl (y_faddr fo_24_2 rfl) ?_
          refine gl_y rfl (y_load ag_22 rfl (blk_own (i := 0) rfl) rfl) ?_
          refine gl_ef (ef_callp en_30 rfl (ref_Fixed r.uint 8 true (by first | omega | (simp only [List.length_append, List.length_cons, List.length_nil, List.length_take, List.length_drop, List.length_map, List.length_replicate, List.length_set, u8s_length, fx_length, fixed_length, turn_length]; omega)) (by first | omega | (simp only [List.length_append, List.length_cons, List.length_nil, List.length_take, List.length_drop, List.length_map, List.length_replicate, List.length_set, u8s_length, fx_length, fixed_length, turn_length]; omega)) (by first | omega | (simp only [List.length_append, List.length_cons, List.length_nil, List.length_take, List.length_drop, List.length_map, List.length_replicate, List.length_set, u8s_length, fx_length, fixed_length, turn_length]; omega))) rfl) ?_
          rintro _ _ _ ⟨v31, rfl, rfl, rfl, rfl⟩
          refine gl_ef (ef_append_str Tryd.underlying39 Tryd.underlying9 tf_5 rfl (i := 1) rfl rfl (by first | omega | (simp only [List.length_append, List.length_cons, List.length_nil, List.length_take, List.length_drop, List.length_map, List.length_replicate, List.length_set, u8s_length, fx_length, fixed_length, turn_length]; omega)) rfl) ?_
          rintro _ _ _ ⟨v32, rfl, rfl, rfl⟩
          refine gl_y rfl (y_assign rfl) ?_
          refine gl_nil ?_
          refine gq_in_normal ?_
          refine gq_then' ?_
          refine gc_seq ?_
          refine gc_seq ?_
          refine gc_M (congrArg (fun e => _ :: e :: _) (osl_u8 _ _ v32 r.kit.enc _ (by rw [kit_enc4 r (by omega)]; simp [fixed_length]) (by rw [kit_enc4 r (by omega), show tagOf (r.kind % 6) = 64 from by rw [show r.kind % 6 = 4 by omega]; rfl]; rfl))) ?_
          refine gc_unosl 1 rfl hX1 ?_
          rintro gg cc jj rfl
          refine gc_region ?_
          refine gl_y rfl (y_assign rfl) ?_
          refine gl_nil ?_
          refine gq_then' ?_
          refine gc_block ?_
          refine gc_loopW (α := Nat) [60, 61, 62, 63, 64, 65, 66, 67, 70, 71, 72, 73, 74, 75, 76, 77, 68, 69, 6] (fun (i : Nat) => [(6, .int .i64 (i : Int))]) (fun (i : Nat) => [cl b1 24 r.cells, cl gg 5 (u8s (turn (r.kit.enc.take i) ++ r.kit.enc.drop i) ++ jj)]) (fun (i : Nat) => i ≤ r.kit.enc.length ∧ (r.down = false → i = 0)) (fun (i : Nat) => r.kit.enc.length - i) 0 ?_ perm_same ?_ ?_
          · exact ⟨Nat.zero_le _, fun _ => rfl⟩
          · exact ⟨rfl, trivial⟩
          · rintro i ⟨hi, hd⟩
            refine gc_seq ?_
            refine gc_seq ?_
            refine gc_region ?_
            refine gl_y rfl (y_move rfl) ?_
            refine gl_y rfl (y_move rfl) ?_
            refine gl_y rfl (y_len Tryd.underlying39 rfl) ?_
            refine gl_y rfl (y_lss rfl rfl) ?_
            refine gl_y rfl (y_move rfl) ?_
            refine gl_if (t := 64) rfl (fun h64 => ?_) (fun h64 => ?_)
            · have g64 := h64
              try (replace g64 := of_decide_eq_true g64)
              first
              | exact absurd h64 (by decide)
              | (exfalso; omega)
              | skip
                refine gl_want rfl rfl rfl h64 ?_
                refine gl_y rfl (y_faddr fo_24_4 rfl) ?_
                refine gl_want rfl rfl rfl h64 ?_
                refine gl_y rfl (y_load ag_4 rfl (blk_own (i := 0) rfl) rfl) ?_
                refine gl_y rfl (y_pick_t rfl h64 rfl) ?_
                refine gl_nil ?_
                refine gq_then' ?_
                refine gc_if rfl (fun h67 => ?_) (fun h67 => ?_)
                · have g67 := h67
                  try (replace g67 := of_decide_eq_true g67)
                  first
                  | exact absurd h67 (by decide)
                  | (exfalso; omega)
                  | skip
                    refine gc_skip ?_
                    refine gq_then' ?_
                    refine gc_seq ?_
                    refine gc_block ?_
                    refine gc_region ?_
                    refine gl_y rfl (y_move rfl) ?_
                    refine gl_y rfl (y_move rfl) ?_
                    refine gl_y rfl (y_move rfl) ?_
                    refine gl_y rfl (y_move rfl) ?_
                    refine gl_y rfl (y_iaddr Tryd.underlying39 sz_5 rfl rfl (by omega) (by first | omega | (simp only [List.length_append, List.length_cons, List.length_nil, List.length_take, List.length_drop, List.length_map, List.length_replicate, List.length_set, u8s_length, fx_length, fixed_length, turn_length]; omega))) ?_
                    refine gl_y rfl (y_load ag_5 rfl (blk_own (i := 1) rfl) (turn_at r.kit.enc jj i (by omega))) ?_
                    refine gl_y rfl (y_sub rfl rfl (sub255 _)) ?_
                    refine gl_y rfl (y_iaddr Tryd.underlying39 sz_5 rfl rfl (by omega) (by first | omega | (simp only [List.length_append, List.length_cons, List.length_nil, List.length_take, List.length_drop, List.length_map, List.length_replicate, List.length_set, u8s_length, fx_length, fixed_length, turn_length]; omega))) ?_
                    refine gl_ef (ef_store sz_5 rfl rfl rfl (i := 1) rfl (by first | rfl | exact blt_of (by first | omega | (simp only [List.length_append, List.length_cons, List.length_nil, List.length_take, List.length_drop, List.length_map, List.length_replicate, List.length_set, u8s_length, fx_length, fixed_length, turn_length]; omega)))) ?_
                    rintro _ _ _ ⟨rfl, rfl, rfl⟩
                    refine gl_nil ?_
                    refine gq_in_normal ?_
                    refine gq_then' ?_
                    refine gc_region ?_
                    refine gl_y rfl (y_move rfl) ?_
                    first | refine gl_y rfl (y_add rfl rfl (wr_i64 (by omega) (by omega))) ?_ | refine gl_y rfl (y_add rfl rfl rfl) ?_
                    refine gl_y rfl (y_assign rfl) ?_
                    refine gl_nil ?_
                    refine gq_M (congrArg (fun l => [_, cl gg 5 l]) (turn_step r.kit.enc jj i (by omega))) ?_
                    refine gq_roundW (i + 1) ?_ ?_ perm_same rfl (by repeat (first | exact Ext.refl | refine Ext.cons rfl ?_)) ?_
                    · exact ⟨by omega, fun h => by rw [h] at h67; cases h67⟩
                    · (show r.kit.enc.length - (i + 1) < r.kit.enc.length - i); omega
                    · exact ⟨rfl, trivial⟩
                · have g67 := h67
                  try (replace g67 := of_decide_eq_false g67)
                  first
                  | exact absurd h67 (by decide)
                  | (exfalso; omega)
                  | skip
                    refine gc_exit ?_
                    refine gq_pass_exit ?_
                    refine gq_pass_exit ?_
                    refine gq_in_exit ?_
                    refine gq_then' ?_
                    refine gc_seq ?_
                    refine gc_region ?_
                    refine gl_y rfl (y_move rfl) ?_
                    refine gl_y rfl (y_tostr (bytes := turn (r.kit.enc.take i) ++ r.kit.enc.drop i) Tryd.underlying39 Tryd.underlying5 Tryd.underlying9 rfl (blk_own (i := 1) rfl) (by simp [turn]; omega) u8s_get) ?_
                    refine gl_y rfl (y_assign rfl) ?_
                    refine gl_nil ?_
                    refine gq_then' ?_
                    refine gc_ret ?_
                    refine gq_r1 rfl rfl perm_all ?_
                    exact bytes_end r i hi hd hX1 (by first | exact .inr g67 | exact .inl (by omega))
            · have g64 := h64
              try (replace g64 := of_decide_eq_false g64)
              first
              | exact absurd h64 (by decide)
              | (exfalso; omega)
              | skip
                refine gl_skip rfl rfl rfl h64 rfl ?_
                refine gl_skip rfl rfl rfl h64 rfl ?_
                refine gl_y rfl (y_pick_f rfl h64 rfl) ?_
                refine gl_nil ?_
                refine gq_then' ?_
                refine gc_f rfl rfl ?_
                refine gc_exit ?_
                refine gq_pass_exit ?_
                refine gq_pass_exit ?_
                refine gq_in_exit ?_
                refine gq_then' ?_
                refine gc_seq ?_
                refine gc_region ?_
                refine gl_y rfl (y_move rfl) ?_
                refine gl_y rfl (y_tostr (bytes := turn (r.kit.enc.take i) ++ r.kit.enc.drop i) Tryd.underlying39 Tryd.underlying5 Tryd.underlying9 rfl (blk_own (i := 1) rfl) (by simp [turn]; omega) u8s_get) ?_
                refine gl_y rfl (y_assign rfl) ?_
                refine gl_nil ?_
                refine gq_then' ?_
                refine gc_ret ?_
                refine gq_r1 rfl rfl perm_all ?_
                exact bytes_end r i hi hd hX1 (by first | exact .inr g67 | exact .inl (by omega))
      · have g26 := h26
        try (replace g26 := of_decide_eq_false g26)
        first
        | exact absurd h26 (by decide)
        | (exfalso; omega)
        | skip
          refine gc_seq ?_
          refine gc_region ?_
          refine gl_y rfl (y_eql rfl rfl) ?_
          refine gl_y rfl (y_assign rfl) ?_
          refine gl_nil ?_
          refine gq_then' ?_
          refine gc_if rfl (fun h33 => ?_) (fun h33 => ?_)
          · have g33 := h33
            try (replace g33 := of_decide_eq_true g33)
            first
            | exact absurd h33 (by decide)
            | (exfalso; omega)
            | skip
              refine gc_seq ?_
              refine gc_seq ?_
              refine gc_region ?_
              refine gl_y rfl (y_assign rfl) ?_
              refine gl_nil ?_
              refine gq_then' ?_
              refine gc_block ?_
              refine gc_M (congrArg (fun e => [_, e]) (osl_u8 _ 1 v12 [80] _ rfl (by rw [show tagOf (r.kind % 6) = 80 from by rw [show r.kind % 6 = 5 by omega]; rfl]; rfl))) ?_
              refine gc_loopW (α := Nat × Value) [35, 36, 37, 38, 39, 42, 43, 44, 45, 46, 47, 48, 3, 49, 50, 51, 52, 53, 54, 55, 56, 40, 41, 5] (fun (⟨i, v⟩ : Nat × Value) => [(5, .int .i64 (i : Int)), (3, v)]) (fun (⟨i, v⟩ : Nat × Value) => [cl b1 24 r.cells, osl 5 1 v (80 :: esc (r.text.take i)).length (u8s (80 :: esc (r.text.take i)))]) (fun (⟨i, v⟩ : Nat × Value) => i ≤ r.text.length) (fun (⟨i, v⟩ : Nat × Value) => r.text.length - i) (0, v12) ?_ perm_same ?_ ?_
              · exact Nat.zero_le _
              · exact ⟨rfl, rfl, trivial⟩
              · rintro ⟨i, v⟩ hi
                have hi : i ≤ r.text.length := hi
                have hEi := esc_take_len r.text i
                refine gc_seq ?_
                refine gc_seq ?_
                refine gc_region ?_
                refine gl_y rfl (y_move rfl) ?_
                refine gl_y rfl (y_faddr fo_24_3 rfl) ?_
                refine gl_y rfl (y_load ag_9 rfl (blk_own (i := 0) rfl) rfl) ?_
                refine gl_y rfl (y_slen Tryd.underlying9 rfl) ?_
                refine gl_y rfl (y_lss rfl rfl) ?_
                refine gl_nil ?_
                refine gq_then' ?_
                refine gc_if rfl (fun h39 => ?_) (fun h39 => ?_)
                · have g39 := h39
                  try (replace g39 := of_decide_eq_true g39)
                  first
                  | exact absurd h39 (by decide)
                  | (exfalso; omega)
                  | skip
                    refine gc_skip ?_
                    refine gq_then' ?_
                    refine gc_seq ?_
                    refine gc_block ?_
                    refine gc_seq ?_
                    refine gc_region ?_
                    refine gl_y rfl (y_move rfl) ?_
                    refine gl_y rfl (y_faddr fo_24_3 rfl) ?_
                    refine gl_y rfl (y_load ag_9 rfl (blk_own (i := 0) rfl) rfl) ?_
                    refine gl_y rfl (y_move rfl) ?_
                    refine gl_y rfl (y_sat Tryd.underlying9 rfl rfl (by omega) (by first | omega | (simp only [List.length_append, List.length_cons, List.length_nil, List.length_take, List.length_drop, List.length_map, List.length_replicate, List.length_set, u8s_length, fx_length, fixed_length, turn_length]; omega))) ?_
                    refine gl_ef (ef_buildSlice Tryd.underlying39 sz_5 zr_5 rfl rfl rfl (cs := [_]) (zl := [_]) rfl rfl rfl rfl) ?_
                    rintro _ _ _ ⟨b47, rfl, rfl, rfl⟩
                    refine gl_ef (ef_append Tryd.underlying39 tf_5 rfl (i := 1) rfl rfl (src_all (blk_own (i := 2) rfl)) rfl rfl (by first | omega | (simp only [List.length_append, List.length_cons, List.length_nil, List.length_take, List.length_drop, List.length_map, List.length_replicate, List.length_set, u8s_length, fx_length, fixed_length, turn_length]; omega)) (by first | omega | (simp only [List.length_append, List.length_cons, List.length_nil, List.length_take, List.length_drop, List.length_map, List.length_replicate, List.length_set, u8s_length, fx_length, fixed_length, turn_length]; omega)) rfl) ?_
                    rintro _ _ _ ⟨v48, rfl, rfl, rfl⟩
                    refine gl_y rfl (y_assign rfl) ?_
                    refine gl_nil ?_
                    refine gq_then' ?_
                    refine gc_seq ?_
                    refine gc_region ?_
                    refine gl_y rfl (y_faddr fo_24_3 rfl) ?_
                    refine gl_y rfl (y_load ag_9 rfl (blk_own (i := 0) rfl) rfl) ?_
                    refine gl_y rfl (y_move rfl) ?_
                    refine gl_y rfl (y_sat Tryd.underlying9 rfl rfl (by omega) (by first | omega | (simp only [List.length_append, List.length_cons, List.length_nil, List.length_take, List.length_drop, List.length_map, List.length_replicate, List.length_set, u8s_length, fx_length, fixed_length, turn_length]; omega))) ?_
                    refine gl_y rfl (y_eql rfl rfl) ?_
                    refine gl_nil ?_
                    refine gq_then' ?_
                    refine gc_if rfl (fun h53 => ?_) (fun h53 => ?_)
                    · have g53 := h53
                      try (replace g53 := of_decide_eq_true g53)
                      first
                      | exact absurd h53 (by decide)
                      | (exfalso; omega)
                      | skip
                        refine gc_region ?_
                        refine gl_y rfl (y_move rfl) ?_
                        refine gl_ef (ef_buildSlice Tryd.underlying39 sz_5 zr_5 rfl rfl rfl (cs := [_]) (zl := [_]) rfl rfl rfl rfl) ?_
                        rintro _ _ _ ⟨b55, rfl, rfl, rfl⟩
                        refine gl_ef (ef_append Tryd.underlying39 tf_5 rfl (i := 1) rfl rfl (src_all (blk_own (i := 3) rfl)) rfl rfl (by first | omega | (simp only [List.length_append, List.length_cons, List.length_nil, List.length_take, List.length_drop, List.length_map, List.length_replicate, List.length_set, u8s_length, fx_length, fixed_length, turn_length]; omega)) (by first | omega | (simp only [List.length_append, List.length_cons, List.length_nil, List.length_take, List.length_drop, List.length_map, List.length_replicate, List.length_set, u8s_length, fx_length, fixed_length, turn_length]; omega)) rfl) ?_
                        rintro _ _ _ ⟨v56, rfl, rfl, rfl⟩
                        refine gl_y rfl (y_assign rfl) ?_
                        refine gl_nil ?_
                        refine gq_in_normal ?_
                        refine gq_then' ?_
                        refine gc_region ?_
                        refine gl_y rfl (y_move rfl) ?_
                        first | refine gl_y rfl (y_add rfl rfl (wr_i64 (by omega) (by omega))) ?_ | refine gl_y rfl (y_add rfl rfl rfl) ?_
                        refine gl_y rfl (y_assign rfl) ?_
                        refine gl_nil ?_
                        have eT := esc_take r.text i (by omega)
                        rw [if_pos (show at8 r.text (i : Int) = 0 from u8_eq (n := 0) (by decide) (by omega))] at eT
                        refine gq_M (congrArg (fun e => _ :: e :: _) (osl_u8 _ _ v56 (80 :: esc (r.text.take (i + 1))) _ (by rw [eT]; simp) (by rw [eT, show at8 r.text (i : Int) = 0 from u8_eq (n := 0) (by decide) (by omega)]; simp [u8s, u8v]))) ?_
                        refine gq_roundW (x := (⟨i, v⟩ : Nat × Value)) (i + 1, v56) ?_ ?_ (perm_two (i := 0) (j := 0) rfl rfl) rfl (by repeat (first | exact Ext.refl | refine Ext.cons rfl ?_)) ?_
                        · (show i + 1 ≤ r.text.length); omega
                        · (show r.text.length - (i + 1) < r.text.length - i); omega
                        · exact ⟨rfl, rfl, trivial⟩
                    · have g53 := h53
                      try (replace g53 := of_decide_eq_false g53)
                      first
                      | exact absurd h53 (by decide)
                      | (exfalso; omega)
                      | skip
                        refine gc_skip ?_
                        refine gq_in_normal ?_
                        refine gq_then' ?_
                        refine gc_region ?_
                        refine gl_y rfl (y_move rfl) ?_
                        first | refine gl_y rfl (y_add rfl rfl (wr_i64 (by omega) (by omega))) ?_ | refine gl_y rfl (y_add rfl rfl rfl) ?_
                        refine gl_y rfl (y_assign rfl) ?_
                        refine gl_nil ?_
                        have eT := esc_take r.text i (by omega)
                        rw [if_neg (show ¬ at8 r.text (i : Int) = 0 from u8_ne (n := 0) (by decide) (by omega))] at eT
                        refine gq_M (congrArg (fun e => _ :: e :: _) (osl_u8 _ _ v48 (80 :: esc (r.text.take (i + 1))) _ (by rw [eT]; simp) (by rw [eT]; simp [u8s, u8v]))) ?_
                        refine gq_roundW (x := (⟨i, v⟩ : Nat × Value)) (i + 1, v48) ?_ ?_ (perm_two (i := 0) (j := 0) rfl rfl) rfl (by repeat (first | exact Ext.refl | refine Ext.cons rfl ?_)) ?_
                        · (show i + 1 ≤ r.text.length); omega
                        · (show r.text.length - (i + 1) < r.text.length - i); omega
                        · exact ⟨rfl, rfl, trivial⟩
                · have g39 := h39
                  try (replace g39 := of_decide_eq_false g39)
                  first
                  | exact absurd h39 (by decide)
                  | (exfalso; omega)
                  | skip
                    refine gc_exit ?_
                    refine gq_pass_exit ?_
                    refine gq_pass_exit ?_
                    refine gq_in_exit ?_
                    refine gq_then' ?_
                    refine gc_region ?_
                    refine gl_y rfl (y_move rfl) ?_
                    refine gl_ef (ef_buildSlice Tryd.underlying39 sz_5 zr_5 rfl rfl rfl (cs := [_, _]) (zl := [_]) rfl rfl rfl rfl) ?_
                    rintro _ _ _ ⟨b58, rfl, rfl, rfl⟩
                    refine gl_ef (ef_append Tryd.underlying39 tf_5 rfl (i := 1) rfl rfl (src_all (blk_own (i := 2) rfl)) rfl rfl (by first | omega | (simp only [List.length_append, List.length_cons, List.length_nil, List.length_take, List.length_drop, List.length_map, List.length_replicate, List.length_set, u8s_length, fx_length, fixed_length, turn_length]; omega)) (by first | omega | (simp only [List.length_append, List.length_cons, List.length_nil, List.length_take, List.length_drop, List.length_map, List.length_replicate, List.length_set, u8s_length, fx_length, fixed_length, turn_length]; omega)) rfl) ?_
                    rintro _ _ _ ⟨v59, rfl, rfl, rfl⟩
                    refine gl_y rfl (y_assign rfl) ?_
                    refine gl_nil ?_
                    refine gq_in_normal ?_
                    refine gq_then' ?_
                    refine gc_seq ?_
                    refine gc_seq ?_
                    refine gc_M (congrArg (fun e => _ :: e :: _) (osl_u8 _ _ v59 r.kit.enc _ (by rw [kit_enc5 r (by omega)]; rw [show i = r.text.length by omega]; rw [List.take_length]; try simp) (by rw [kit_enc5 r (by omega)]; rw [show i = r.text.length by omega]; rw [List.take_length]; try simp [u8s, u8v]))) ?_
                    refine gc_unosl 1 rfl hX1 ?_
                    rintro gg cc jj rfl
                    refine gc_region ?_
                    refine gl_y rfl (y_assign rfl) ?_
                    refine gl_nil ?_
                    refine gq_then' ?_
                    refine gc_block ?_
                    refine gc_loopW (α := Nat) [60, 61, 62, 63, 64, 65, 66, 67, 70, 71, 72, 73, 74, 75, 76, 77, 68, 69, 6] (fun (i : Nat) => [(6, .int .i64 (i : Int))]) (fun (i : Nat) => [cl b1 24 r.cells, cl gg 5 (u8s (turn (r.kit.enc.take i) ++ r.kit.enc.drop i) ++ jj)]) (fun (i : Nat) => i ≤ r.kit.enc.length ∧ (r.down = false → i = 0)) (fun (i : Nat) => r.kit.enc.length - i) 0 ?_ (perm_two (i := 0) (j := 0) rfl rfl) ?_ ?_
                    · exact ⟨Nat.zero_le _, fun _ => rfl⟩
                    · exact ⟨rfl, trivial⟩
                    · rintro i ⟨hi, hd⟩
                      refine gc_seq ?_
                      refine gc_seq ?_
                      refine gc_region ?_
                      refine gl_y rfl (y_move rfl) ?_
                      refine gl_y rfl (y_move rfl) ?_
                      refine gl_y rfl (y_len Tryd.underlying39 rfl) ?_
                      refine gl_y rfl (y_lss rfl rfl) ?_
                      refine gl_y rfl (y_move rfl) ?_
                      refine gl_if (t := 64) rfl (fun h64 => ?_) (fun h64 => ?_)
                      · have g64 := h64
                        try (replace g64 := of_decide_eq_true g64)
                        first
                        | exact absurd h64 (by decide)
                        | (exfalso; omega)
                        | skip
                          refine gl_want rfl rfl rfl h64 ?_
                          refine gl_y rfl (y_faddr fo_24_4 rfl) ?_
                          refine gl_want rfl rfl rfl h64 ?_
                          refine gl_y rfl (y_load ag_4 rfl (blk_own (i := 0) rfl) rfl) ?_
                          refine gl_y rfl (y_pick_t rfl h64 rfl) ?_
                          refine gl_nil ?_
                          refine gq_then' ?_
                          refine gc_if rfl (fun h67 => ?_) (fun h67 => ?_)
                          · have g67 := h67
                            try (replace g67 := of_decide_eq_true g67)
                            first
                            | exact absurd h67 (by decide)
                            | (exfalso; omega)
                            | skip
                              refine gc_skip ?_
                              refine gq_then' ?_
                              refine gc_seq ?_
                              refine gc_block ?_
                              refine gc_region ?_
                              refine gl_y rfl (y_move rfl) ?_
                              refine gl_y rfl (y_move rfl) ?_
                              refine gl_y rfl (y_move rfl) ?_
                              refine gl_y rfl (y_move rfl) ?_
                              refine gl_y rfl (y_iaddr Tryd.underlying39 sz_5 rfl rfl (by omega) (by first | omega | (simp only [List.length_append, List.length_cons, List.length_nil, List.length_take, List.length_drop, List.length_map, List.length_replicate, List.length_set, u8s_length, fx_length, fixed_length, turn_length]; omega))) ?_
                              refine gl_y rfl (y_load ag_5 rfl (blk_own (i := 1) rfl) (turn_at r.kit.enc jj i (by omega))) ?_
                              refine gl_y rfl (y_sub rfl rfl (sub255 _)) ?_
                              refine gl_y rfl (y_iaddr Tryd.underlying39 sz_5 rfl rfl (by omega) (by first | omega | (simp only [List.length_append, List.length_cons, List.length_nil, List.length_take, List.length_drop, List.length_map, List.length_replicate, List.length_set, u8s_length, fx_length, fixed_length, turn_length]; omega))) ?_
                              refine gl_ef (ef_store sz_5 rfl rfl rfl (i := 1) rfl (by first | rfl | exact blt_of (by first | omega | (simp only [List.length_append, List.length_cons, List.length_nil, List.length_take, List.length_drop, List.length_map, List.length_replicate, List.length_set, u8s_length, fx_length, fixed_length, turn_length]; omega)))) ?_
                              rintro _ _ _ ⟨rfl, rfl, rfl⟩
                              refine gl_nil ?_
                              refine gq_in_normal ?_
                              refine gq_then' ?_
                              refine gc_region ?_
                              refine gl_y rfl (y_move rfl) ?_
                              first | refine gl_y rfl (y_add rfl rfl (wr_i64 (by omega) (by omega))) ?_ | refine gl_y rfl (y_add rfl rfl rfl) ?_
                              refine gl_y rfl (y_assign rfl) ?_
                              refine gl_nil ?_
                              refine gq_M (congrArg (fun l => [_, cl gg 5 l]) (turn_step r.kit.enc jj i (by omega))) ?_
                              refine gq_roundW (i + 1) ?_ ?_ perm_same rfl (by repeat (first | exact Ext.refl | refine Ext.cons rfl ?_)) ?_
                              · exact ⟨by omega, fun h => by rw [h] at h67; cases h67⟩
                              · (show r.kit.enc.length - (i + 1) < r.kit.enc.length - i); omega
                              · exact ⟨rfl, trivial⟩
                          · have g67 := h67
                            try (replace g67 := of_decide_eq_false g67)
                            first
                            | exact absurd h67 (by decide)
                            | (exfalso; omega)
                            | skip
                              refine gc_exit ?_
                              refine gq_pass_exit ?_
                              refine gq_pass_exit ?_
                              refine gq_in_exit ?_
                              refine gq_then' ?_
                              refine gc_seq ?_
                              refine gc_region ?_
                              refine gl_y rfl (y_move rfl) ?_
                              refine gl_y rfl (y_tostr (bytes := turn (r.kit.enc.take i) ++ r.kit.enc.drop i) Tryd.underlying39 Tryd.underlying5 Tryd.underlying9 rfl (blk_own (i := 1) rfl) (by simp [turn]; omega) u8s_get) ?_
                              refine gl_y rfl (y_assign rfl) ?_
                              refine gl_nil ?_
                              refine gq_then' ?_
                              refine gc_ret ?_
                              refine gq_r1 rfl rfl perm_all ?_
                              exact bytes_end r i hi hd hX1 (by first | exact .inr g67 | exact .inl (by omega))
                      · have g64 := h64
                        try (replace g64 := of_decide_eq_false g64)
                        first
                        | exact absurd h64 (by decide)
                        | (exfalso; omega)
                        | skip
                          refine gl_skip rfl rfl rfl h64 rfl ?_
                          refine gl_skip rfl rfl rfl h64 rfl ?_
                          refine gl_y rfl (y_pick_f rfl h64 rfl) ?_
                          refine gl_nil ?_
                          refine gq_then' ?_
                          refine gc_f rfl rfl ?_
                          refine gc_exit ?_
                          refine gq_pass_exit ?_
                          refine gq_pass_exit ?_
                          refine gq_in_exit ?_
                          refine gq_then' ?_
                          refine gc_seq ?_
                          refine gc_region ?_
                          refine gl_y rfl (y_move rfl) ?_
                          refine gl_y rfl (y_tostr (bytes := turn (r.kit.enc.take i) ++ r.kit.enc.drop i) Tryd.underlying39 Tryd.underlying5 Tryd.underlying9 rfl (blk_own (i := 1) rfl) (by simp [turn]; omega) u8s_get) ?_
                          refine gl_y rfl (y_assign rfl) ?_
                          refine gl_nil ?_
                          refine gq_then' ?_
                          refine gc_ret ?_
                          refine gq_r1 rfl rfl perm_all ?_
                          exact bytes_end r i hi hd hX1 (by first | exact .inr g67 | exact .inl (by omega))
          · have g33 := h33
            try (replace g33 := of_decide_eq_false g33)
            first
            | exact absurd h33 (by decide)
            | (exfalso; omega)
            | skip
              refine gc_skip ?_
              refine gq_in_normal ?_
              refine gq_then' ?_
              refine gc_seq ?_
              refine gc_seq ?_
              refine gc_M (congrArg (fun e => _ :: e :: _) (osl_u8 _ _ v12 r.kit.enc _ (by rw [kit_enc0 r (by omega)]; rfl) (by rw [kit_enc0 r (by omega)]; rfl))) ?_
              refine gc_unosl 1 rfl hX1 ?_
              rintro gg cc jj rfl
              refine gc_region ?_
              refine gl_y rfl (y_assign rfl) ?_
              refine gl_nil ?_
              refine gq_then' ?_
              refine gc_block ?_
              refine gc_loopW (α := Nat) [60, 61, 62, 63, 64, 65, 66, 67, 70, 71, 72, 73, 74, 75, 76, 77, 68, 69, 6] (fun (i : Nat) => [(6, .int .i64 (i : Int))]) (fun (i : Nat) => [cl b1 24 r.cells, cl gg 5 (u8s (turn (r.kit.enc.take i) ++ r.kit.enc.drop i) ++ jj)]) (fun (i : Nat) => i ≤ r.kit.enc.length ∧ (r.down = false → i = 0)) (fun (i : Nat) => r.kit.enc.length - i) 0 ?_ perm_same ?_ ?_
              · exact ⟨Nat.zero_le _, fun _ => rfl⟩
              · exact ⟨rfl, trivial⟩
              · rintro i ⟨hi, hd⟩
                refine gc_seq ?_
                refine gc_seq ?_
                refine gc_region ?_
                refine gl_y rfl (y_move rfl) ?_
                refine gl_y rfl (y_move rfl) ?_
                refine gl_y rfl (y_len Tryd.underlying39 rfl) ?_
                refine gl_y rfl (y_lss rfl rfl) ?_
                refine gl_y rfl (y_move rfl) ?_
                refine gl_if (t := 64) rfl (fun h64 => ?_) (fun h64 => ?_)
                · have g64 := h64
                  try (replace g64 := of_decide_eq_true g64)
                  first
                  | exact absurd h64 (by decide)
                  | (exfalso; omega)
                  | skip
                    refine gl_want rfl rfl rfl h64 ?_
                    refine gl_y rfl (y_faddr fo_24_4 rfl) ?_
                    refine gl_want rfl rfl rfl h64 ?_
                    refine gl_y rfl (y_load ag_4 rfl (blk_own (i := 0) rfl) rfl) ?_
                    refine gl_y rfl (y_pick_t rfl h64 rfl) ?_
                    refine gl_nil ?_
                    refine gq_then' ?_
                    refine gc_if rfl (fun h67 => ?_) (fun h67 => ?_)
                    · have g67 := h67
                      try (replace g67 := of_decide_eq_true g67)
                      first
                      | exact absurd h67 (by decide)
                      | (exfalso; omega)
                      | skip
                        refine gc_skip ?_
                        refine gq_then' ?_
                        refine gc_seq ?_
                        refine gc_block ?_
                        refine gc_region ?_
                        refine gl_y rfl (y_move rfl) ?_
                        refine gl_y rfl (y_move rfl) ?_
                        refine gl_y rfl (y_move rfl) ?_
                        refine gl_y rfl (y_move rfl) ?_
                        refine gl_y rfl (y_iaddr Tryd.underlying39 sz_5 rfl rfl (by omega) (by first | omega | (simp only [List.length_append, List.length_cons, List.length_nil, List.length_take, List.length_drop, List.length_map, List.length_replicate, List.length_set, u8s_length, fx_length, fixed_length, turn_length]; omega))) ?_
                        refine gl_y rfl (y_load ag_5 rfl (blk_own (i := 1) rfl) (turn_at r.kit.enc jj i (by omega))) ?_
                        refine gl_y rfl (y_sub rfl rfl (sub255 _)) ?_
                        refine gl_y rfl (y_iaddr Tryd.underlying39 sz_5 rfl rfl (by omega) (by first | omega | (simp only [List.length_append, List.length_cons, List.length_nil, List.length_take, List.length_drop, List.length_map, List.length_replicate, List.length_set, u8s_length, fx_length, fixed_length, turn_length]; omega))) ?_
                        refine gl_ef (ef_store sz_5 rfl rfl rfl (i := 1) rfl (by first | rfl | exact blt_of (by first | omega | (simp only [List.length_append, List.length_cons, List.length_nil, List.length_take, List.length_drop, List.length_map, List.length_replicate, List.length_set, u8s_length, fx_length, fixed_length, turn_length]; omega)))) ?_
                        rintro _ _ _ ⟨rfl, rfl, rfl⟩
                        refine gl_nil ?_
                        refine gq_in_normal ?_
                        refine gq_then' ?_
                        refine gc_region ?_
                        refine gl_y rfl (y_move rfl) ?_
                        first | refine gl_y rfl (y_add rfl rfl (wr_i64 (by omega) (by omega))) ?_ | refine gl_y rfl (y_add rfl rfl rfl) ?_
                        refine gl_y rfl (y_assign rfl) ?_
                        refine gl_nil ?_
                        refine gq_M (congrArg (fun l => [_, cl gg 5 l]) (turn_step r.kit.enc jj i (by omega))) ?_
                        refine gq_roundW (i + 1) ?_ ?_ perm_same rfl (by repeat (first | exact Ext.refl | refine Ext.cons rfl ?_)) ?_
                        · exact ⟨by omega, fun h => by rw [h] at h67; cases h67⟩
                        · (show r.kit.enc.length - (i + 1) < r.kit.enc.length - i); omega
                        · exact ⟨rfl, trivial⟩
                    · have g67 := h67
                      try (replace g67 := of_decide_eq_false g67)
                      first
                      | exact absurd h67 (by decide)
                      | (exfalso; omega)
                      | skip
                        refine gc_exit ?_
                        refine gq_pass_exit ?_
                        refine gq_pass_exit ?_
                        refine gq_in_exit ?_
                        refine gq_then' ?_
                        refine gc_seq ?_
                        refine gc_region ?_
                        refine gl_y rfl (y_move rfl) ?_
                        refine gl_y rfl (y_tostr (bytes := turn (r.kit.enc.take i) ++ r.kit.enc.drop i) Tryd.underlying39 Tryd.underlying5 Tryd.underlying9 rfl (blk_own (i := 1) rfl) (by simp [turn]; omega) u8s_get) ?_
                        refine gl_y rfl (y_assign rfl) ?_
                        refine gl_nil ?_
                        refine gq_then' ?_
                        refine gc_ret ?_
                        refine gq_r1 rfl rfl perm_all ?_
                        exact bytes_end r i hi hd hX1 (by first | exact .inr g67 | exact .inl (by omega))
                · have g64 := h64
                  try (replace g64 := of_decide_eq_false g64)
                  first
                  | exact absurd h64 (by decide)
                  | (exfalso; omega)
                  | skip
                    refine gl_skip rfl rfl rfl h64 rfl ?_
                    refine gl_skip rfl rfl rfl h64 rfl ?_
                    refine gl_y rfl (y_pick_f rfl h64 rfl) ?_
                    refine gl_nil ?_
                    refine gq_then' ?_
                    refine gc_f rfl rfl ?_
                    refine gc_exit ?_
                    refine gq_pass_exit ?_
                    refine gq_pass_exit ?_
                    refine gq_in_exit ?_
                    refine gq_then' ?_
                    refine gc_seq ?_
                    refine gc_region ?_
                    refine gl_y rfl (y_move rfl) ?_
                    refine gl_y rfl (y_tostr (bytes := turn (r.kit.enc.take i) ++ r.kit.enc.drop i) Tryd.underlying39 Tryd.underlying5 Tryd.underlying9 rfl (blk_own (i := 1) rfl) (by simp [turn]; omega) u8s_get) ?_
                    refine gl_y rfl (y_assign rfl) ?_
                    refine gl_nil ?_
                    refine gq_then' ?_
                    refine gc_ret ?_
                    refine gq_r1 rfl rfl perm_all ?_
                    exact bytes_end r i hi hd hX1 (by first | exact .inr g67 | exact .inl (by omega))
end Go.Proofs.YtgoaclokjenpkaaDoorS
