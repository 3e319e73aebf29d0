/- disk: sectors, and writes that wait. -/
import Derived.Test.YtnccebppgmnmfaaSepFacts
import Derived.Test.YtnccebppgmnmfaaSepQ
import Derived.Test.YtnccebppgmnmfaaShelf
import Derived.Test.YtnccebppgmnmfaaSepL
import Derived.Test.YtnccebppgmnmfaaLogP
import Derived.Test.YtnccebppgmnmfaaXPrim
import Derived.Test.YtnccebppgmnmfaaXCrc2
set_option linter.unusedVariables false
set_option linter.unusedSimpArgs false
set_option maxRecDepth 20000
namespace Go.Proofs.YtnccebppgmnmfaaS
open Go.RowKit Go.Proofs

theorem p_Repeat (c : Int) (h0 : 0 ≤ c) (h1 : c ≤ 1048576) : CtrP Try.prog 206 [.string (bs [0]), .int .i64 c] (fun v => v = .string (bs (zs c.toNat))) := by
  intro G I R M w s
  obtain ⟨m, rfl⟩ : ∃ m : Nat, c = m := ⟨c.toNat, by omega⟩
  refine (Try.strings_Repeat (bs [0]) m w (by omega) (by show 1 * m ≤ _; omega)).mono ?_
  rintro e w' ⟨rfl, hb⟩
  refine ⟨_, rfl, s.below hb, ?_⟩
  have := Lib.repeatL_replicate 0 1 m
  rw [Nat.mul_one] at this
  show Value.string (bs (Lib.repeatL [0] m)) = _
  exact congrArg (fun l => Value.string (bs l)) this
abbrev strV (l : By) : Value := .string (bs l)
abbrev wrC (x : Wr) : List Value := [.int .i64 (x.1 : Int), strV x.2]
structure DX where
  sb : Nat
  wv : Value
  S : List By
  W : List Wr
abbrev DXo (F : By) (k : Nat) := {x : DX // DOk x.S x.W F ∧ x.W.length ≤ k}
def dskN (d : Nat) (F : By) (k : Nat) : DXo F k → List Ent
  | ⟨⟨sb, wv, S, W⟩, _⟩ => [cl d 212 [.slice (some ⟨sb, 0, none⟩) S.length S.length, wv, .int .i64 (-1), .bool false], cl sb 9 (S.map strV), osl 225 2 wv W.length ((W.map wrC).flatten)]
abbrev dsk (d : Nat) (F : By) (k : Nat) : Ent := Hid (dskN d F k)
structure DKn (I : PH) (d : Nat) (x : DX) (A : Option Addr) (c : Nat) : Prop where
  hd : ∃ fz, I d = some (.cells (List.toArray [.slice (some ⟨x.sb, 0, none⟩) x.S.length x.S.length, .slice A x.W.length c, .int .i64 (-1), .bool false]) 212 fz)
  hs : ∃ fz, I x.sb = some (.cells (List.toArray (x.S.map strV)) 9 fz)
  hw : Rsl I 2 A x.W.length ((x.W.map wrC).flatten)
theorem DKn.le {I I' : PH} {d : Nat} {x : DX} {A : Option Addr} {c : Nat} (h : DKn I d x A c) (l : I.le I') : DKn I' d x A c :=
  ⟨let ⟨fz, e⟩ := h.hd; ⟨fz, l _ _ e⟩, let ⟨fz, e⟩ := h.hs; ⟨fz, l _ _ e⟩, h.hw.mono l⟩
def DK (I : PH) (d : Nat) (F : By) (k : Nat) : Prop := ∃ (x : DX) (A : Option Addr) (c : Nat), DKn I d x A c ∧ DOk x.S x.W F ∧ x.W.length ≤ k
theorem DK.le {I I' : PH} {d : Nat} {F : By} {k : Nat} (h : DK I d F k) (l : I.le I') : DK I' d F k := let ⟨x, A, c, a, b⟩ := h; ⟨x, A, c, a.le l, b⟩
theorem dk_lend {I hl : PH} {d : Nat} {F : By} {k : Nat} (h : stars [dsk d F k] hl) (hle : hl.le I) : DK I d F k := by
  obtain ⟨h1, h2, ⟨⟨⟨sb, wv, S, W⟩, hD, hk⟩, hx⟩, rfl, _, rfl⟩ := h
  rw [PH.union_emp] at hle
  obtain ⟨k1, k2, ⟨fz, _, rfl⟩, ⟨k3, k4, ⟨fz2, _, rfl⟩, h5, d2, rfl⟩, d1, rfl⟩ := hx
  have l1 : (PH.single d _).le I := PH.le_trans (PH.le_union_left _ _) hle
  have l2 : (PH.single sb _).le I := PH.le_trans (PH.le_trans (PH.le_union_left _ _) (PH.le_union_right d1)) hle
  have l3 : k4.le I := PH.le_trans (PH.le_trans (PH.le_union_right d2) (PH.le_union_right d1)) hle
  obtain ⟨A, c, hv, hR⟩ := rsl_osl h5 l3
  refine ⟨⟨sb, wv, S, W⟩, A, c, ⟨⟨fz, ?_⟩, ⟨fz2, l2 _ _ (PH.single_at _ _)⟩, hR⟩, hD, hk⟩
  have hv : wv = .slice A W.length c := hv
  subst hv
  exact l1 _ _ (PH.single_at _ _)
theorem map_at {S : List By} {i : Int} {s : By} (h : S[i.toNat]? = some s) : (S.map strV)[0 + i.toNat * 1]? = some (strV s) := by
  rw [Nat.zero_add, Nat.mul_one, List.getElem?_map, h]; rfl
theorem wrC_len (a : Wr) : (wrC a).length = 2 := rfl
theorem wr_get {cs : List Value} {o : Nat} {W : List Wr} (hc : ∀ j u, ((W.map wrC).flatten)[j]? = some u → cs[o + j]? = some u) {i : Nat} {y : Wr} (hy : W[i]? = some y) : ∀ j u, (wrC y)[j]? = some u → cs[o + i * 2 + j]? = some u := fun j u h => by
  rw [Nat.add_assoc]
  have hj : j < 2 := (List.getElem?_eq_some_iff.1 h).1
  exact hc _ _ ((flat_get wrC_len W i j y hy hj).trans h)
theorem osl_wr (e : Nat) (v : Value) (W : List Wr) (i : Int) (b : By) (h0 : 0 ≤ i) : osl e 2 v (W.length + 1) ((W.map wrC).flatten ++ [.int .i64 i, strV b]) = osl e 2 v (W ++ [(i.toNat, b)]).length (((W ++ [(i.toNat, b)]).map wrC).flatten) := by
  have e1 : ((i.toNat : Nat) : Int) = i := by omega
  simp [wrC, e1]
theorem made_str (n : Nat) : (madeCells (Value.string ⟨#[]⟩).cells (n * 1)).toList = (List.replicate n []).map strV := by
  apply List.ext_getElem
  · simp [madeCells]
  · intro i h1 h2
    simp [madeCells, Value.cells, Nat.mod_one]
theorem may_t {p : Prop} [Decidable p] (h : ((if p then (1 : Int) else 0) ≠ 0)) : p := by
  by_cases e : p
  · exact e
  · rw [if_neg e] at h; exact absurd rfl h
theorem may_f {p : Prop} [Decidable p] (h : ¬ ((if p then (1 : Int) else 0) ≠ 0)) : ¬ p := fun e => by rw [if_pos e] at h; exact h (by decide)
theorem put_step {S : List By} {W : List Wr} {j : Nat} {y : Wr} (hy : W[j]? = some y) : ((putW S (W.take j)).map strV).set (0 + ((y.1 : Nat) : Int).toNat * 1) (strV y.2) = (putW S (W.take (j + 1))).map strV := by
  have e : W.take (j + 1) = W.take j ++ [y] := by rw [List.take_add_one, hy]; rfl
  rw [e, putW_snoc, List.map_set]
  congr 1; simp

theorem disk_may (d : Nat) (x : DX) (A : Option Addr) (c : Nat) (i : Int) : CtrQ Try.prog 137 [.pointer (some ⟨d, 0, none⟩), .int .i64 i] (fun I => DKn I d x A c) (fun v => v = .int .i64 (if i < 0 ∨ (x.S.length : Int) ≤ i then 1 else 0)) := by
  refine CtrQ.of fun I hK => ?_
  have hK1 := hK
  obtain ⟨⟨fz, hd⟩, ⟨fz2, hs⟩, hw⟩ := hK1
  refine ctr_of Try.func137 rfl (n := 22) rfl rfl ?_
  intro G R
  simp only [argL]
  refine gc_seq ?_
  refine gc_region ?_
  refine gl_y rfl (y_assign rfl) ?_
  refine gl_nil ?_
  refine gq_then' ?_
  refine gc_seq ?_
  refine gc_block ?_
  refine gc_seq ?_
  refine gc_region ?_
  refine gl_y rfl (y_move rfl) ?_
  refine gl_y rfl (y_nilck rfl) ?_
  refine gl_y rfl (y_faddr fo_212_3 rfl) ?_
  refine gl_y rfl (y_load ag_4 rfl (blk_known hd) rfl) ?_
  refine gl_y rfl (y_assign rfl) ?_
  refine gl_nil ?_
  refine gq_then' ?_
  refine gc_f rfl rfl ?_
  refine gc_seq ?_
  refine gc_region ?_
  refine gl_y rfl (y_move rfl) ?_
  refine gl_y rfl (y_lss rfl rfl) ?_
  refine gl_y rfl (y_move rfl) ?_
  refine gl_if (t := 13) rfl (fun h13 => ?_) (fun h13 => ?_)
  · have g13 := h13
    try (replace g13 := of_decide_eq_true g13)
    first
    | exact absurd h13 (by decide)
    | (exfalso; omega)
    | skip
      refine gl_skip rfl rfl rfl h13 rfl ?_
      refine gl_skip rfl rfl rfl h13 rfl ?_
      refine gl_skip rfl rfl rfl h13 rfl ?_
      refine gl_skip rfl rfl rfl h13 rfl ?_
      refine gl_skip rfl rfl rfl h13 rfl ?_
      refine gl_skip rfl rfl rfl h13 rfl ?_
      refine gl_skip rfl rfl rfl h13 rfl ?_
      refine gl_y rfl (y_pick_t rfl h13 rfl) ?_
      refine gl_y rfl (y_assign rfl) ?_
      refine gl_nil ?_
      refine gq_then' ?_
      refine gc_t rfl rfl ?_
      refine gc_seq ?_
      refine gc_region ?_
      refine gl_y rfl (y_assign rfl) ?_
      refine gl_nil ?_
      refine gq_then' ?_
      refine gc_ret ?_
      refine gq_in_ret ?_
      refine gq_pass_ret ?_
      refine gq_r1 rfl rfl perm_all ?_
      first | (rw [if_pos (by omega)]) | (rw [if_neg (by omega)])
  · have g13 := h13
    try (replace g13 := of_decide_eq_false g13)
    first
    | exact absurd h13 (by decide)
    | (exfalso; omega)
    | skip
      refine gl_want rfl rfl rfl h13 ?_
      refine gl_y rfl (y_move rfl) ?_
      refine gl_want rfl rfl rfl h13 ?_
      refine gl_y rfl (y_move rfl) ?_
      refine gl_want rfl rfl rfl h13 ?_
      refine gl_y rfl (y_nilck rfl) ?_
      refine gl_want rfl rfl rfl h13 ?_
      refine gl_y rfl (y_faddr fo_212_0 rfl) ?_
      refine gl_want rfl rfl rfl h13 ?_
      refine gl_y rfl (y_load ag_76 rfl (blk_known hd) rfl) ?_
      refine gl_want rfl rfl rfl h13 ?_
      refine gl_y rfl (y_len Try.underlying76 rfl) ?_
      refine gl_want rfl rfl rfl h13 ?_
      refine gl_y rfl (y_geq rfl rfl) ?_
      refine gl_y rfl (y_pick_f rfl h13 rfl) ?_
      refine gl_y rfl (y_assign rfl) ?_
      refine gl_nil ?_
      refine gq_then' ?_
      refine gc_if rfl (fun h10 => ?_) (fun h10 => ?_)
      · have g10 := h10
        try (replace g10 := of_decide_eq_true g10)
        first
        | exact absurd h10 (by decide)
        | (exfalso; omega)
        | skip
          refine gc_seq ?_
          refine gc_region ?_
          refine gl_y rfl (y_assign rfl) ?_
          refine gl_nil ?_
          refine gq_then' ?_
          refine gc_ret ?_
          refine gq_in_ret ?_
          refine gq_pass_ret ?_
          refine gq_r1 rfl rfl perm_all ?_
          first | (rw [if_pos (by omega)]) | (rw [if_neg (by omega)])
      · have g10 := h10
        try (replace g10 := of_decide_eq_false g10)
        first
        | exact absurd h10 (by decide)
        | (exfalso; omega)
        | skip
          refine gc_skip ?_
          refine gq_in_normal ?_
          refine gq_then' ?_
          refine gc_seq ?_
          refine gc_region ?_
          refine gl_y rfl (y_assign rfl) ?_
          refine gl_nil ?_
          refine gq_then' ?_
          refine gc_ret ?_
          refine gq_r1 rfl rfl perm_all ?_
          first | (rw [if_pos (by omega)]) | (rw [if_neg (by omega)])

theorem dk_may (d : Nat) (F : By) (k n : Nat) (i : Int) (hF : F.length = 64 * n) : CtrQ Try.prog 137 [.pointer (some ⟨d, 0, none⟩), .int .i64 i] (fun I => DK I d F k) (fun v => v = .int .i64 (if i < 0 ∨ (n : Int) ≤ i then 1 else 0)) := fun G I R M w ⟨x, A, c, h1, h2, h3⟩ s => by
  have := disk_may d x A c i G I R M w h1 s
  have e : x.S.length = n := by have := h2.len; omega
  rwa [e] at this
theorem dk_may_in (d : Nat) (F : By) (k n : Nat) (i : Int) (hF : F.length = 64 * n) (h0 : 0 ≤ i) (h1 : i < n) : CtrQ Try.prog 137 [.pointer (some ⟨d, 0, none⟩), .int .i64 i] (fun I => DK I d F k) (fun v => v = .int .i64 0) := by
  have := dk_may d F k n i hF
  rwa [if_neg (by omega)] at this

theorem disk_here (d : Nat) (x : DX) (A : Option Addr) (c : Nat) (i : Int) (s : By) (h0 : 0 ≤ i) (hi : x.S[i.toNat]? = some s) : CtrQ Try.prog 205 [.pointer (some ⟨d, 0, none⟩), .int .i64 i] (fun I => DKn I d x A c) (fun v => v = strV (fixS s)) := by
  refine CtrQ.of fun I hK => ?_
  have hK1 := hK
  obtain ⟨⟨fz, hd⟩, ⟨fz2, hs⟩, hw⟩ := hK1
  have hi1 := (List.getElem?_eq_some_iff.1 hi).1
  refine ctr_of Try.func205 rfl (n := 21) rfl rfl ?_
  intro G R
  simp only [argL]
  refine gc_seq ?_
  refine gc_region ?_
  refine gl_y rfl (y_assign rfl) ?_
  refine gl_nil ?_
  refine gq_then' ?_
  refine gc_seq ?_
  refine gc_seq ?_
  refine gc_region ?_
  refine gl_y rfl (y_move rfl) ?_
  refine gl_y rfl (y_nilck rfl) ?_
  refine gl_y rfl (y_faddr fo_212_0 rfl) ?_
  refine gl_y rfl (y_load ag_76 rfl (blk_known hd) rfl) ?_
  refine gl_y rfl (y_move rfl) ?_
  refine gl_y rfl (y_iaddr Try.underlying76 sz_9 rfl rfl (by omega) (by first | omega | (simp only [List.length_append, List.length_cons, List.length_nil, List.length_take, List.length_drop, List.length_map, List.length_replicate, List.length_set, u8s_length, fx_length, fixed_length, tabTo_len, tabV_len]; omega))) ?_
  refine gl_y rfl (y_load ag_9 rfl (blk_known hs) (map_at hi)) ?_
  refine gl_y rfl (y_seql rfl rfl) ?_
  refine gl_nil ?_
  refine gq_then' ?_
  refine gc_if rfl (fun h12 => ?_) (fun h12 => ?_)
  · have g12 := h12
    try (replace g12 := of_decide_eq_true g12)
    first
    | exact absurd h12 (by decide)
    | (exfalso; omega)
    | skip
      refine gc_seq ?_
      refine gc_region ?_
      refine gl_ef (ef_callp en_206 rfl (p_Repeat 64 (by decide) (by decide)) rfl) ?_
      rintro _ _ _ ⟨v13, rfl, rfl, rfl, rfl⟩
      refine gl_y rfl (y_assign rfl) ?_
      refine gl_nil ?_
      refine gq_then' ?_
      refine gc_ret ?_
      refine gq_pass_ret ?_
      refine gq_r1 rfl rfl perm_all ?_
      show _ = strV (fixS s)
      rw [fixS, if_pos g12]; rfl
  · have g12 := h12
    try (replace g12 := of_decide_eq_false g12)
    first
    | exact absurd h12 (by decide)
    | (exfalso; omega)
    | skip
      refine gc_skip ?_
      refine gq_then' ?_
      refine gc_seq ?_
      refine gc_region ?_
      refine gl_y rfl (y_move rfl) ?_
      refine gl_y rfl (y_nilck rfl) ?_
      refine gl_y rfl (y_faddr fo_212_0 rfl) ?_
      refine gl_y rfl (y_load ag_76 rfl (blk_known hd) rfl) ?_
      refine gl_y rfl (y_move rfl) ?_
      refine gl_y rfl (y_iaddr Try.underlying76 sz_9 rfl rfl (by omega) (by first | omega | (simp only [List.length_append, List.length_cons, List.length_nil, List.length_take, List.length_drop, List.length_map, List.length_replicate, List.length_set, u8s_length, fx_length, fixed_length, tabTo_len, tabV_len]; omega))) ?_
      refine gl_y rfl (y_load ag_9 rfl (blk_known hs) (map_at hi)) ?_
      refine gl_y rfl (y_assign rfl) ?_
      refine gl_nil ?_
      refine gq_then' ?_
      refine gc_ret ?_
      refine gq_r1 rfl rfl perm_all ?_
      show _ = strV (fixS s)
      rw [fixS, if_neg g12]
theorem disk_Read (d : Nat) (F : By) (k n : Nat) (i : Int) (hF : F.length = 64 * n) (hkm : k ≤ 1099511627776) : CtrQ Try.prog 128 [.pointer (some ⟨d, 0, none⟩), .int .i64 i] (fun I => DK I d F k) (fun v => v = .tuple #[strV (if 0 ≤ i ∧ i < n then sec F i.toNat else []), .int .i64 (if 0 ≤ i ∧ i < n then 0 else 1)]) := by
  refine CtrQ.of fun I hK => ?_
  obtain ⟨x, A, c, hK0, hD, hk⟩ := hK
  have hK1 := hK0
  obtain ⟨⟨fz, hd⟩, ⟨fz2, hs⟩, hw⟩ := hK1
  have hSn : x.S.length = n := by have := hD.len; omega
  refine ctr_of Try.func128 rfl (n := 45) rfl rfl ?_
  intro G R
  simp only [argL]
  refine gc_seq ?_
  refine gc_region ?_
  refine gl_y rfl (y_assign rfl) ?_
  refine gl_y rfl (y_assign rfl) ?_
  refine gl_nil ?_
  refine gq_then' ?_
  refine gc_seq ?_
  refine gc_seq ?_
  refine gc_region ?_
  refine gl_y rfl (y_move rfl) ?_
  refine gl_y rfl (y_move rfl) ?_
  refine gl_ef (ef_callq en_137 rfl (disk_may _ x A c i) perm_all (fun _ _ _ _ h => hK0.le h) rfl) ?_
  rintro _ _ _ ⟨v10, rfl, rfl, rfl, rfl⟩
  refine gl_y rfl (y_assign rfl) ?_
  refine gl_nil ?_
  refine gq_then' ?_
  refine gc_seq ?_
  refine gc_region ?_
  refine gl_y rfl (y_move rfl) ?_
  refine gl_y rfl (y_neq rfl rfl) ?_
  refine gl_nil ?_
  refine gq_then' ?_
  refine gc_if rfl (fun h12 => ?_) (fun h12 => ?_)
  · have g12 := h12
    try (replace g12 := of_decide_eq_true g12)
    replace g12 := may_t g12
    rw [hSn] at g12
    first
    | exact absurd h12 (by decide)
    | (exfalso; omega)
    | skip
      refine gc_seq ?_
      refine gc_region ?_
      refine gl_y rfl (y_move rfl) ?_
      refine gl_y rfl (y_assign rfl) ?_
      refine gl_y rfl (y_assign rfl) ?_
      refine gl_nil ?_
      refine gq_then' ?_
      refine gc_ret ?_
      refine gq_pass_ret ?_
      refine gq_r2 rfl rfl rfl perm_all ?_
      rw [if_pos (by omega), if_neg (by omega), if_neg (by omega)]
  · have g12 := h12
    try (replace g12 := of_decide_eq_false g12)
    replace g12 := may_f g12
    rw [hSn] at g12
    first
    | exact absurd h12 (by decide)
    | (exfalso; omega)
    | skip
      refine gc_skip ?_
      refine gq_then' ?_
      refine gc_seq ?_
      refine gc_seq ?_
      refine gc_region ?_
      refine gl_y rfl (y_move rfl) ?_
      refine gl_y rfl (y_nilck rfl) ?_
      refine gl_y rfl (y_faddr fo_212_1 rfl) ?_
      refine gl_y rfl (y_load ag_210 rfl (blk_known hd) rfl) ?_
      refine gl_y rfl (y_len Try.underlying210 rfl) ?_
      first | refine gl_y rfl (y_sub rfl rfl (wr_i64 (by omega) (by omega))) ?_ | refine gl_y rfl (y_sub rfl rfl rfl) ?_
      refine gl_y rfl (y_assign rfl) ?_
      refine gl_nil ?_
      refine gq_then' ?_
      refine gc_block ?_
      refine gc_loopW (α := Int) [20, 21, 24, 25, 26, 27, 28, 29, 30, 31, 32, 33, 34, 35, 36, 37, 38, 39, 40, 41, 4, 5, 22, 23, 7] (fun (j : Int) => [(7, .int .i64 j)]) (fun (j : Int) => []) (fun (j : Int) => -1 ≤ j ∧ j < x.W.length ∧ ∀ m y, j < (m : Nat) → x.W[m]? = some y → y.1 ≠ i.toNat) (fun (j : Int) => (j + 1).toNat) ((x.W.length : Int) - 1) ?_ perm_all ?_ ?_
      · exact ⟨by omega, by omega, fun m y h e => by have := (List.getElem?_eq_some_iff.1 e).1; omega⟩
      · exact ⟨rfl, trivial⟩
      · rintro j ⟨hj0, hj1, hj⟩
        refine gc_seq ?_
        refine gc_seq ?_
        refine gc_region ?_
        refine gl_y rfl (y_move rfl) ?_
        refine gl_y rfl (y_geq rfl rfl) ?_
        refine gl_nil ?_
        refine gq_then' ?_
        refine gc_if rfl (fun h21 => ?_) (fun h21 => ?_)
        · have g21 := h21
          try (replace g21 := of_decide_eq_true g21)
          first
          | exact absurd h21 (by decide)
          | (exfalso; omega)
          | skip
            refine gc_skip ?_
            refine gq_then' ?_
            refine gc_seq ?_
            refine gc_block ?_
            refine gc_seq ?_
            refine gc_region ?_
            refine gl_y rfl (y_move rfl) ?_
            refine gl_y rfl (y_nilck rfl) ?_
            refine gl_y rfl (y_faddr fo_212_1 rfl) ?_
            refine gl_y rfl (y_load ag_210 rfl (blk_known hd) rfl) ?_
            refine gl_y rfl (y_move rfl) ?_
            obtain ⟨y, hy⟩ : ∃ y, x.W[j.toNat]? = some y := ⟨_, List.getElem?_eq_getElem (by omega)⟩
            obtain ⟨b, o, t, fz3, cs, hA, hI, hc⟩ := hw.pos (by omega)
            refine gl_y rfl (y_iaddrA Try.underlying210 sz_225 rfl hA rfl (by omega) (by omega)) ?_
            refine gl_y rfl (y_faddr fo_225_0 rfl) ?_
            refine gl_y rfl (y_load ag_3 rfl (blk_known hI) (wr_get hc hy 0 _ rfl)) ?_
            refine gl_y rfl (y_move rfl) ?_
            refine gl_y rfl (y_eql rfl rfl) ?_
            refine gl_nil ?_
            refine gq_then' ?_
            refine gc_if rfl (fun h33 => ?_) (fun h33 => ?_)
            · have g33 := h33
              try (replace g33 := of_decide_eq_true g33)
              first
              | exact absurd h33 (by decide)
              | (exfalso; omega)
              | skip
                refine gc_seq ?_
                refine gc_region ?_
                refine gl_y rfl (y_move rfl) ?_
                refine gl_y rfl (y_nilck rfl) ?_
                refine gl_y rfl (y_faddr fo_212_1 rfl) ?_
                refine gl_y rfl (y_load ag_210 rfl (blk_known hd) rfl) ?_
                refine gl_y rfl (y_move rfl) ?_
                refine gl_y rfl (y_iaddrA Try.underlying210 sz_225 rfl hA rfl (by omega) (by omega)) ?_
                refine gl_y rfl (y_faddr fo_225_1 rfl) ?_
                refine gl_y rfl (y_load ag_9 rfl (blk_known hI) (wr_get hc hy 1 _ rfl)) ?_
                refine gl_y rfl (y_assign rfl) ?_
                refine gl_y rfl (y_assign rfl) ?_
                refine gl_nil ?_
                refine gq_then' ?_
                refine gc_ret ?_
                refine gq_in_ret ?_
                refine gq_pass_ret ?_
                refine gq_pass_ret ?_
                refine gq_in_ret ?_
                refine gq_pass_ret ?_
                refine gq_r2 rfl rfl rfl perm_all ?_
                rw [if_pos (by omega), if_pos (by omega), hD.waits (i := i.toNat) (k := j.toNat) (b := y.2) (by rw [hy, ← (show y.1 = i.toNat by omega)]) (fun m y2 h e => hj m y2 (by omega) e)]
            · have g33 := h33
              try (replace g33 := of_decide_eq_false g33)
              first
              | exact absurd h33 (by decide)
              | (exfalso; omega)
              | skip
                refine gc_skip ?_
                refine gq_in_normal ?_
                refine gq_then' ?_
                refine gc_region ?_
                refine gl_y rfl (y_move rfl) ?_
                first | refine gl_y rfl (y_sub rfl rfl (wr_i64 (by omega) (by omega))) ?_ | refine gl_y rfl (y_sub rfl rfl rfl) ?_
                refine gl_y rfl (y_assign rfl) ?_
                refine gl_nil ?_
                refine gq_roundW (j - 1) ?_ ?_ perm_all rfl (by repeat (first | exact Ext.refl | refine Ext.cons rfl ?_)) ?_
                · exact ⟨by omega, by omega, fun m y2 h e => by
                      by_cases hm : (m : Int) = j
                      · have : m = j.toNat := by omega
                        subst this
                        rw [hy] at e; cases e; intro e2; exact g33 (by omega)
                      · exact hj m y2 (by omega) e⟩
                · (show (j - 1 + 1).toNat < (j + 1).toNat); omega
                · exact ⟨rfl, trivial⟩
        · have g21 := h21
          try (replace g21 := of_decide_eq_false g21)
          first
          | exact absurd h21 (by decide)
          | (exfalso; omega)
          | skip
            refine gc_exit ?_
            refine gq_pass_exit ?_
            refine gq_pass_exit ?_
            refine gq_in_exit ?_
            refine gq_then' ?_
            refine gc_seq ?_
            have hi2 : i.toNat < x.S.length := by omega
            have hS1 : x.S[i.toNat]? = some (x.S[i.toNat]) := List.getElem?_eq_getElem hi2
            refine gc_region ?_
            refine gl_y rfl (y_move rfl) ?_
            refine gl_y rfl (y_move rfl) ?_
            refine gl_ef (ef_callq en_205 rfl (disk_here _ x A c i _ (by first | omega | (simp only [List.length_append, List.length_cons, List.length_nil, List.length_take, List.length_drop, List.length_map, List.length_replicate, List.length_set, u8s_length, fx_length, fixed_length, tabTo_len, tabV_len]; omega)) (hS1 : x.S[i.toNat]? = some (x.S[i.toNat]))) perm_all (fun _ _ _ _ h => hK0.le h) rfl) ?_
            rintro _ _ _ ⟨v44, rfl, rfl, rfl, rfl⟩
            refine gl_y rfl (y_assign rfl) ?_
            refine gl_y rfl (y_assign rfl) ?_
            refine gl_nil ?_
            refine gq_then' ?_
            refine gc_ret ?_
            refine gq_r2 rfl rfl rfl perm_all ?_
            rw [if_pos (by omega), if_pos (by omega), hD.here hS1 (fun m y2 e => hj m y2 (by omega) e)]
theorem disk_Sectors (d : Nat) (F : By) (k n : Nat) (hF : F.length = 64 * n) : CtrQ Try.prog 53 [.pointer (some ⟨d, 0, none⟩)] (fun I => DK I d F k) (fun v => v = .int .i64 (n : Int)) := by
  refine CtrQ.of fun I hK => ?_
  obtain ⟨x, A, c, hK0, hD, hk⟩ := hK
  have hK1 := hK0
  obtain ⟨⟨fz, hd⟩, ⟨fz2, hs⟩, hw⟩ := hK1
  have hSn : x.S.length = n := by have := hD.len; omega
  refine ctr_of Try.func53 rfl (n := 8) rfl rfl ?_
  intro G R
  simp only [argL]
  refine gc_seq ?_
  refine gc_region ?_
  refine gl_y rfl (y_assign rfl) ?_
  refine gl_nil ?_
  refine gq_then' ?_
  refine gc_seq ?_
  refine gc_region ?_
  refine gl_y rfl (y_move rfl) ?_
  refine gl_y rfl (y_nilck rfl) ?_
  refine gl_y rfl (y_faddr fo_212_0 rfl) ?_
  refine gl_y rfl (y_load ag_76 rfl (blk_known hd) rfl) ?_
  refine gl_y rfl (y_len Try.underlying76 rfl) ?_
  refine gl_y rfl (y_assign rfl) ?_
  refine gl_nil ?_
  refine gq_then' ?_
  refine gc_ret ?_
  refine gq_r1 rfl rfl perm_all ?_
  rw [hSn]
theorem disk_Waits (d : Nat) (F : By) (k n : Nat) (hF : F.length = 64 * n) : CtrQ Try.prog 55 [.pointer (some ⟨d, 0, none⟩)] (fun I => DK I d F k) (fun v => ∃ j : Nat, v = .int .i64 (j : Int) ∧ j ≤ k) := by
  refine CtrQ.of fun I hK => ?_
  obtain ⟨x, A, c, hK0, hD, hk⟩ := hK
  have hK1 := hK0
  obtain ⟨⟨fz, hd⟩, ⟨fz2, hs⟩, hw⟩ := hK1
  have hSn : x.S.length = n := by have := hD.len; omega
  refine ctr_of Try.func55 rfl (n := 8) rfl rfl ?_
  intro G R
  simp only [argL]
  refine gc_seq ?_
  refine gc_region ?_
  refine gl_y rfl (y_assign rfl) ?_
  refine gl_nil ?_
  refine gq_then' ?_
  refine gc_seq ?_
  refine gc_region ?_
  refine gl_y rfl (y_move rfl) ?_
  refine gl_y rfl (y_nilck rfl) ?_
  refine gl_y rfl (y_faddr fo_212_1 rfl) ?_
  refine gl_y rfl (y_load ag_210 rfl (blk_known hd) rfl) ?_
  refine gl_y rfl (y_len Try.underlying210 rfl) ?_
  refine gl_y rfl (y_assign rfl) ?_
  refine gl_nil ?_
  refine gq_then' ?_
  refine gc_ret ?_
  refine gq_r1 rfl rfl perm_all ?_
  exact ⟨_, rfl, hk⟩
theorem disk_Write {I : PH} (d : Nat) (F : By) (k n : Nat) (i : Int) (b : By) (hF : F.length = 64 * n) (h0 : 0 ≤ i) (h1 : i < n) (hb : b.length = 64) (hkm : k ≤ 1099511627776) : Ctr Try.prog 54 [.pointer (some ⟨d, 0, none⟩), .int .i64 i, .string (bs b)] I [dsk d F k] (fun v _ M' => v = .int .i64 0 ∧ M' = [dsk d (ovl F (64 * i.toNat) b) (k + 1)]) := by
  refine ctr_of Try.func54 rfl (n := 53) rfl rfl ?_
  intro G R
  simp only [argL]
  refine gc_seq ?_
  refine gc_region ?_
  refine gl_y rfl (y_assign rfl) ?_
  refine gl_nil ?_
  refine gq_then' ?_
  refine gc_seq ?_
  refine gc_region ?_
  refine gl_y rfl (y_move rfl) ?_
  refine gl_y rfl (y_move rfl) ?_
  refine gl_ef (ef_callq en_137 rfl (dk_may_in _ _ _ _ i hF h0 h1) perm_same (fun hl I1 h1 h2 _ => dk_lend h1 h2) rfl) ?_
  rintro _ _ _ ⟨v10, rfl, rfl, rfl, rfl⟩
  refine gl_y rfl (y_assign rfl) ?_
  refine gl_nil ?_
  refine gq_then' ?_
  refine gc_seq ?_
  refine gc_seq ?_
  refine gc_region ?_
  refine gl_y rfl (y_move rfl) ?_
  refine gl_y rfl (y_eql rfl rfl) ?_
  refine gl_y rfl (y_move rfl) ?_
  refine gl_want rfl rfl rfl rfl ?_
  refine gl_y rfl (y_move rfl) ?_
  refine gl_want rfl rfl rfl rfl ?_
  refine gl_y rfl (y_slen Try.underlying9 rfl) ?_
  refine gl_want rfl rfl rfl rfl ?_
  refine gl_y rfl (y_neq rfl rfl) ?_
  refine gl_y rfl (y_pick_t rfl rfl rfl) ?_
  refine gl_nil ?_
  refine gq_then' ?_
  refine gc_if rfl (fun h17 => ?_) (fun h17 => ?_)
  · have g17 := h17
    try (replace g17 := of_decide_eq_true g17)
    first
    | exact absurd h17 (by decide)
    | (exfalso; omega)
    | skip
      refine gc_region ?_
      refine gl_y rfl (y_assign rfl) ?_
      refine gl_nil ?_
      refine gq_then' ?_
      refine gc_seq ?_
      refine gc_seq ?_
      refine gc_region ?_
      refine gl_y rfl (y_move rfl) ?_
      refine gl_y rfl (y_neq rfl rfl) ?_
      refine gl_nil ?_
      refine gq_then' ?_
      refine gc_f rfl rfl ?_
      refine gc_skip ?_
      refine gq_then' ?_
      refine gc_seq ?_
      refine gc_unhid 0 rfl ?_
      rintro ⟨⟨sb, wv, S, W⟩, hD, hk⟩
      dsimp only at hD hk
      refine gc_region ?_
      refine gl_y rfl (y_move rfl) ?_
      refine gl_y rfl (y_move rfl) ?_
      refine gl_y rfl (y_nilck rfl) ?_
      refine gl_y rfl (y_faddr fo_212_1 rfl) ?_
      refine gl_y rfl (y_load ag_210 rfl (blk_own (i := 0) rfl) rfl) ?_
      refine gl_y rfl (y_move rfl) ?_
      refine gl_y rfl (y_move rfl) ?_
      refine gl_y rfl (y_build pl_225 zr_225 rfl (cs := [_, _]) rfl) ?_
      refine gl_ef (ef_buildSlice Try.underlying210 sz_225 zr_225 rfl rfl rfl (cs := [_, _]) (zl := [_, _]) rfl rfl rfl rfl) ?_
      rintro _ _ _ ⟨b29, rfl, rfl, rfl⟩
      refine gl_ef (ef_append Try.underlying210 tf_225 rfl (i := 2) rfl rfl (src_all (blk_own (i := 3) rfl)) rfl rfl (by first | omega | (simp only [List.length_append, List.length_cons, List.length_nil, List.length_take, List.length_drop, List.length_map, List.length_replicate, List.length_set, u8s_length, fx_length, fixed_length, tabTo_len, tabV_len]; omega)) (by first | omega | (simp only [List.length_append, List.length_cons, List.length_nil, List.length_take, List.length_drop, List.length_map, List.length_replicate, List.length_set, u8s_length, fx_length, fixed_length, tabTo_len, tabV_len]; omega)) rfl) ?_
      rintro _ _ _ ⟨v30, rfl, rfl, rfl⟩
      refine gl_says 2 rfl osl_one ?_
      rintro ho
      refine gl_y rfl (y_nilck rfl) ?_
      refine gl_y rfl (y_faddr fo_212_1 rfl) ?_
      refine gl_ef (ef_store sz_210 rfl rfl ho (i := 0) rfl (by first | rfl | exact blt_of (by first | omega | (simp only [List.length_append, List.length_cons, List.length_nil, List.length_take, List.length_drop, List.length_map, List.length_replicate, List.length_set, u8s_length, fx_length, fixed_length, tabTo_len, tabV_len]; omega)))) ?_
      rintro _ _ _ ⟨rfl, rfl, rfl⟩
      refine gl_nil ?_
      refine gq_then' ?_
      refine gc_seq ?_
      refine gc_seq ?_
      refine gc_region ?_
      refine gl_y rfl (y_move rfl) ?_
      refine gl_y rfl (y_nilck rfl) ?_
      refine gl_y rfl (y_faddr fo_212_2 rfl) ?_
      refine gl_y rfl (y_load ag_3 rfl (blk_own (i := 0) rfl) rfl) ?_
      refine gl_y rfl (y_gtr rfl rfl) ?_
      refine gl_nil ?_
      refine gq_then' ?_
      refine gc_f rfl rfl ?_
      refine gc_skip ?_
      refine gq_then' ?_
      refine gc_seq ?_
      refine gc_region ?_
      refine gl_y rfl (y_assign rfl) ?_
      refine gl_nil ?_
      refine gq_then' ?_
      refine gc_ret ?_
      have hSn : S.length = n := by have := hD.len; omega
      refine gq_M (congrArg (fun e => _ :: _ :: e :: _) (osl_wr _ v30 W i b h0)) ?_
      refine gq_hid (N := dskN d (ovl F (64 * i.toNat) b) (k + 1)) ⟨⟨sb, v30, S, W ++ [(i.toNat, b)]⟩, hD.write (by omega) hb, by simp; omega⟩ (perm_three (i := 0) (j := 0) (k := 0) rfl rfl rfl) ?_
      refine gq_r1 rfl rfl (perm_one (i := 0) rfl) ?_
      exact ⟨rfl, rfl⟩
  · have g17 := h17
    try (replace g17 := of_decide_eq_false g17)
    first
    | exact absurd h17 (by decide)
    | (exfalso; omega)
    | skip
      refine gc_skip ?_
      refine gq_then' ?_
      refine gc_seq ?_
      refine gc_seq ?_
      refine gc_region ?_
      refine gl_y rfl (y_move rfl) ?_
      refine gl_y rfl (y_neq rfl rfl) ?_
      refine gl_nil ?_
      refine gq_then' ?_
      refine gc_f rfl rfl ?_
      refine gc_skip ?_
      refine gq_then' ?_
      refine gc_seq ?_
      refine gc_unhid 0 rfl ?_
      rintro ⟨⟨sb, wv, S, W⟩, hD, hk⟩
      dsimp only at hD hk
      refine gc_region ?_
      refine gl_y rfl (y_move rfl) ?_
      refine gl_y rfl (y_move rfl) ?_
      refine gl_y rfl (y_nilck rfl) ?_
      refine gl_y rfl (y_faddr fo_212_1 rfl) ?_
      refine gl_y rfl (y_load ag_210 rfl (blk_own (i := 0) rfl) rfl) ?_
      refine gl_y rfl (y_move rfl) ?_
      refine gl_y rfl (y_move rfl) ?_
      refine gl_y rfl (y_build pl_225 zr_225 rfl (cs := [_, _]) rfl) ?_
      refine gl_ef (ef_buildSlice Try.underlying210 sz_225 zr_225 rfl rfl rfl (cs := [_, _]) (zl := [_, _]) rfl rfl rfl rfl) ?_
      rintro _ _ _ ⟨b29, rfl, rfl, rfl⟩
      refine gl_ef (ef_append Try.underlying210 tf_225 rfl (i := 2) rfl rfl (src_all (blk_own (i := 3) rfl)) rfl rfl (by first | omega | (simp only [List.length_append, List.length_cons, List.length_nil, List.length_take, List.length_drop, List.length_map, List.length_replicate, List.length_set, u8s_length, fx_length, fixed_length, tabTo_len, tabV_len]; omega)) (by first | omega | (simp only [List.length_append, List.length_cons, List.length_nil, List.length_take, List.length_drop, List.length_map, List.length_replicate, List.length_set, u8s_length, fx_length, fixed_length, tabTo_len, tabV_len]; omega)) rfl) ?_
      rintro _ _ _ ⟨v30, rfl, rfl, rfl⟩
      refine gl_says 2 rfl osl_one ?_
      rintro ho
      refine gl_y rfl (y_nilck rfl) ?_
      refine gl_y rfl (y_faddr fo_212_1 rfl) ?_
      refine gl_ef (ef_store sz_210 rfl rfl ho (i := 0) rfl (by first | rfl | exact blt_of (by first | omega | (simp only [List.length_append, List.length_cons, List.length_nil, List.length_take, List.length_drop, List.length_map, List.length_replicate, List.length_set, u8s_length, fx_length, fixed_length, tabTo_len, tabV_len]; omega)))) ?_
      rintro _ _ _ ⟨rfl, rfl, rfl⟩
      refine gl_nil ?_
      refine gq_then' ?_
      refine gc_seq ?_
      refine gc_seq ?_
      refine gc_region ?_
      refine gl_y rfl (y_move rfl) ?_
      refine gl_y rfl (y_nilck rfl) ?_
      refine gl_y rfl (y_faddr fo_212_2 rfl) ?_
      refine gl_y rfl (y_load ag_3 rfl (blk_own (i := 0) rfl) rfl) ?_
      refine gl_y rfl (y_gtr rfl rfl) ?_
      refine gl_nil ?_
      refine gq_then' ?_
      refine gc_f rfl rfl ?_
      refine gc_skip ?_
      refine gq_then' ?_
      refine gc_seq ?_
      refine gc_region ?_
      refine gl_y rfl (y_assign rfl) ?_
      refine gl_nil ?_
      refine gq_then' ?_
      refine gc_ret ?_
      have hSn : S.length = n := by have := hD.len; omega
      refine gq_M (congrArg (fun e => _ :: _ :: e :: _) (osl_wr _ v30 W i b h0)) ?_
      refine gq_hid (N := dskN d (ovl F (64 * i.toNat) b) (k + 1)) ⟨⟨sb, v30, S, W ++ [(i.toNat, b)]⟩, hD.write (by omega) hb, by simp; omega⟩ (perm_three (i := 0) (j := 0) (k := 0) rfl rfl rfl) ?_
      refine gq_r1 rfl rfl (perm_one (i := 0) rfl) ?_
      exact ⟨rfl, rfl⟩
theorem disk_Sync {I : PH} (d : Nat) (F : By) (k : Nat) (hkm : k ≤ 1099511627776) : Ctr Try.prog 131 [.pointer (some ⟨d, 0, none⟩)] I [dsk d F k] (fun v _ M' => v = .int .i64 0 ∧ M' = [dsk d F 0]) := by
  refine ctr_of Try.func131 rfl (n := 31) rfl rfl ?_
  intro G R
  simp only [argL]
  refine gc_unhid 0 rfl ?_
  rintro ⟨⟨sb, wv, S, W⟩, hD, hk⟩
  dsimp only at hD hk
  refine gc_seq ?_
  refine gc_region ?_
  refine gl_y rfl (y_assign rfl) ?_
  refine gl_nil ?_
  refine gq_then' ?_
  refine gc_seq ?_
  refine gc_seq ?_
  refine gc_region ?_
  refine gl_y rfl (y_move rfl) ?_
  refine gl_y rfl (y_nilck rfl) ?_
  refine gl_y rfl (y_faddr fo_212_3 rfl) ?_
  refine gl_y rfl (y_load ag_4 rfl (blk_own (i := 0) rfl) rfl) ?_
  refine gl_nil ?_
  refine gq_then' ?_
  refine gc_f rfl rfl ?_
  refine gc_skip ?_
  refine gq_then' ?_
  refine gc_seq ?_
  refine gc_seq ?_
  refine gc_region ?_
  refine gl_y rfl (y_move rfl) ?_
  refine gl_y rfl (y_nilck rfl) ?_
  refine gl_y rfl (y_faddr fo_212_1 rfl) ?_
  refine gl_y rfl (y_load ag_210 rfl (blk_own (i := 0) rfl) rfl) ?_
  refine gl_frz 2 rfl ?_
  rintro I12 a12 c12 hle12 rfl hR12
  refine gl_y rfl (y_len Try.underlying210 rfl) ?_
  refine gl_y rfl (y_move rfl) ?_
  refine gl_nil ?_
  refine gq_then' ?_
  refine gc_block ?_
  refine gc_loopW (α := Nat) [15, 16, 17, 4, 18, 19, 20, 21, 22, 23, 24, 25, 26, 27, 14] (fun (j : Nat) => [(14, .int .i64 (j : Int))]) (fun (j : Nat) => [cl d 212 [.slice (some ⟨sb, 0, none⟩) S.length S.length, .slice a12 W.length c12, .int .i64 (-1), .bool false], cl sb 9 ((putW S (W.take j)).map strV)]) (fun (j : Nat) => j ≤ W.length) (fun (j : Nat) => W.length - j) 0 ?_ perm_same ?_ ?_
  · exact Nat.zero_le _
  · exact ⟨rfl, trivial⟩
  · rintro j hj
    refine gc_seq ?_
    refine gc_region ?_
    refine gl_y rfl (y_lss rfl rfl) ?_
    refine gl_nil ?_
    refine gq_then' ?_
    refine gc_seq ?_
    refine gc_if rfl (fun h15 => ?_) (fun h15 => ?_)
    · have g15 := h15
      try (replace g15 := of_decide_eq_true g15)
      first
      | exact absurd h15 (by decide)
      | (exfalso; omega)
      | skip
        refine gc_skip ?_
        refine gq_then' ?_
        refine gc_seq ?_
        refine gc_block ?_
        refine gc_seq ?_
        refine gc_region ?_
        obtain ⟨y, hy⟩ : ∃ y, W[j]? = some y := ⟨_, List.getElem?_eq_getElem (by omega)⟩
        have hy2 := (hD.wr y (List.mem_of_getElem? hy)).1
        have hpl := putW_len (W.take j) S
        obtain ⟨b, o, t, fz3, cs, hA, hI, hc⟩ := hR12.pos (by omega)
        refine gl_y rfl (y_iaddrA Try.underlying210 sz_225 rfl hA rfl (by omega) (by omega)) ?_
        refine gl_y rfl (y_loadA ag_225 sz_225 rfl (blk_known hI) (vs := wrC y) rfl (wr_get hc hy)) ?_
        refine gl_ef (ef_alloc zr_225 (l := [_, _]) rfl rfl) ?_
        rintro _ _ _ ⟨b4, rfl, rfl, rfl⟩
        refine gl_ef (ef_storeA sz_225 rfl (vs := [_, _]) rfl rfl rfl (i := 2) rfl rfl) ?_
        rintro _ _ _ ⟨rfl, rfl, rfl⟩
        refine gl_nil ?_
        refine gq_then' ?_
        refine gc_region_draw (N := 10) [(d, [.slice (some ⟨sb, 0, none⟩) S.length S.length, .slice a12 W.length c12, .int .i64 (-1), .bool false]), (b4, [.int .i64 (y.1 : Int), strV y.2])] rfl follows_mixed (by repeat (first | exact panicOk_body | refine panicOk_then ?_ | refine panicOk_in ?_)) (by kernel_rfl) ?_ ?_
        · exact ⟨blk_own (i := 0) rfl, blk_own (i := 2) rfl, trivial⟩
        · skip
          refine ga_y 0 rfl (by kernel_rfl) (by kernel_rfl) rfl (y_move rfl) ?_
          refine ga_y 1 rfl (by kernel_rfl) (by kernel_rfl) rfl (y_nilck rfl) ?_
          refine ga_y 2 rfl (by kernel_rfl) (by kernel_rfl) rfl (y_faddr fo_212_0 rfl) ?_
          refine ga_y 3 rfl (by kernel_rfl) (by kernel_rfl) rfl (y_load ag_76 rfl (blk_S (k := 0) rfl) rfl) ?_
          refine ga_y 4 rfl (by kernel_rfl) (by kernel_rfl) rfl (y_faddr fo_225_0 rfl) ?_
          refine ga_y 5 rfl (by kernel_rfl) (by kernel_rfl) rfl (y_load ag_3 rfl (blk_S (k := 1) rfl) rfl) ?_
          refine ga_y 6 rfl (by kernel_rfl) (by kernel_rfl) rfl (y_faddr fo_225_1 rfl) ?_
          refine ga_y 7 rfl (by kernel_rfl) (by kernel_rfl) rfl (y_load ag_9 rfl (blk_S (k := 1) rfl) rfl) ?_
          refine ga_y 8 rfl (by kernel_rfl) (by kernel_rfl) rfl (y_iaddr Try.underlying76 sz_9 rfl rfl (by omega) (by first | omega | (simp only [List.length_append, List.length_cons, List.length_nil, List.length_take, List.length_drop, List.length_map, List.length_replicate, List.length_set, u8s_length, fx_length, fixed_length, tabTo_len, tabV_len]; omega))) ?_
          refine ga_all1 (i := 9) (by kernel_rfl) ?_
          · skip
            refine gb_ef rfl (ef_store sz_9 rfl rfl rfl (i := 1) rfl (by first | rfl | exact blt_of (by first | omega | (simp only [List.length_append, List.length_cons, List.length_nil, List.length_take, List.length_drop, List.length_map, List.length_replicate, List.length_set, u8s_length, fx_length, fixed_length, tabTo_len, tabV_len]; omega)))) ?_
            rintro _ _ _ ⟨rfl, rfl, rfl⟩
            refine ⟨sat_S ⟨blk_own (i := 0) rfl, blk_own (i := 2) rfl, trivial⟩, ?_⟩
            refine ga_done (by kernel_rfl) ?_
            refine gq_in_normal ?_
            refine gq_then' ?_
            refine gc_region ?_
            first | refine gl_y rfl (y_add rfl rfl (wr_i64 (by omega) (by omega))) ?_ | refine gl_y rfl (y_add rfl rfl rfl) ?_
            refine gl_y rfl (y_move rfl) ?_
            refine gl_nil ?_
            refine gq_M (congrArg (fun e => _ :: cl sb _ e :: _) (put_step hy)) ?_
            refine gq_roundW (j + 1) ?_ ?_ (perm_two (i := 0) (j := 0) rfl rfl) rfl (by repeat (first | exact Ext.refl | refine Ext.cons rfl ?_)) ?_
            · omega
            · (show W.length - (j + 1) < W.length - j); omega
            · exact ⟨rfl, trivial⟩
    · have g15 := h15
      try (replace g15 := of_decide_eq_false g15)
      first
      | exact absurd h15 (by decide)
      | (exfalso; omega)
      | skip
        refine gc_exit ?_
        refine gq_pass_exit ?_
        refine gq_pass_exit ?_
        refine gq_in_exit ?_
        refine gq_then' ?_
        refine gc_seq ?_
        refine gc_region ?_
        refine gl_y rfl (y_move rfl) ?_
        refine gl_y rfl (y_nilck rfl) ?_
        refine gl_y rfl (y_faddr fo_212_1 rfl) ?_
        refine gl_ef (ef_store sz_210 rfl rfl rfl (i := 0) rfl (by first | rfl | exact blt_of (by first | omega | (simp only [List.length_append, List.length_cons, List.length_nil, List.length_take, List.length_drop, List.length_map, List.length_replicate, List.length_set, u8s_length, fx_length, fixed_length, tabTo_len, tabV_len]; omega)))) ?_
        rintro _ _ _ ⟨rfl, rfl, rfl⟩
        refine gl_nil ?_
        refine gq_then' ?_
        refine gc_seq ?_
        refine gc_region ?_
        refine gl_y rfl (y_assign rfl) ?_
        refine gl_nil ?_
        refine gq_then' ?_
        refine gc_ret ?_
        refine gq_nilslice 225 2 ?_
        obtain rfl : j = W.length := by omega
        rw [List.take_length]
        rw [← putW_len W S]
        refine gq_hid (N := dskN d F 0) ⟨⟨sb, .slice none 0 0, putW S W, []⟩, hD.sync, Nat.le_refl _⟩ perm_same ?_
        refine gq_part perm_same ?_
        refine gq_ret1 rfl rfl hle12 ?_
        exact ⟨rfl, rfl⟩
theorem disk_New {I : PH} (n : Nat) (hn : n ≤ 4096) : Ctr Try.prog 43 [.int .i64 (n : Int)] I [] (fun v _ M' => ∃ d, v = .pointer (some ⟨d, 0, none⟩) ∧ M' = [dsk d (zs (64 * n)) 0]) := by
  refine ctr_of Try.func43 rfl (n := 9) rfl rfl ?_
  intro G R
  simp only [argL]
  refine gc_seq ?_
  refine gc_region ?_
  refine gl_y rfl (y_assign rfl) ?_
  refine gl_nil ?_
  refine gq_then' ?_
  refine gc_seq ?_
  refine gc_region ?_
  refine gl_y rfl (y_move rfl) ?_
  refine gl_y rfl (y_max rfl rfl (show max (n : Int) 0 = (n : Int) by omega)) ?_
  refine gl_y rfl (y_min rfl rfl (show min (n : Int) 4096 = (n : Int) by omega)) ?_
  refine gl_ef (ef_make Try.underlying76 tf_9 (m := n) rfl rfl (by omega) (by omega) rfl) ?_
  rintro _ _ _ ⟨b6, rfl, rfl, rfl⟩
  refine gl_y rfl (y_build pl_212 zr_212 rfl (cs := [_, _, _, _]) rfl) ?_
  refine gl_ef (ef_box rfl (l := [_, _, _, _]) rfl rfl) ?_
  rintro _ _ _ ⟨b8, rfl, rfl, rfl⟩
  refine gl_y rfl (y_assign rfl) ?_
  refine gl_nil ?_
  refine gq_then' ?_
  refine gc_ret ?_
  refine gq_nilslice 225 2 ?_
  refine gq_M (M2 := [cl b6 _ ((List.replicate n []).map strV), cl b8 _ [.slice (some ⟨b6, 0, none⟩) (List.replicate n ([] : By)).length (List.replicate n ([] : By)).length, .slice none 0 0, .int .i64 (-1), .bool false], _]) (by rw [List.length_replicate, ← made_str]; rfl) ?_
  refine gq_hid (N := dskN b8 (zs (64 * n)) 0) ⟨⟨b6, .slice none 0 0, List.replicate n [], []⟩, DOk.new n, Nat.le_refl _⟩ (perm_three (i := 1) (j := 0) (k := 0) rfl rfl rfl) ?_
  refine gq_r1 rfl rfl perm_same ?_
  exact ⟨_, rfl, rfl⟩
end Go.Proofs.YtnccebppgmnmfaaS
