/- How items are read out of bytes, in plain Lean. -/
import Derived.Test.YtgoaclokjenpkaaDoorKeysQ
set_option linter.unusedVariables false
set_option linter.unusedSimpArgs false
namespace Go.Proofs.YtgoaclokjenpkaaDoorS
theorem at8_drop (l : List UInt8) (i : Nat) (h : i < l.length) : l.drop i = at8 l (i : Int) :: l.drop (i + 1) := by
  rw [List.drop_eq_getElem_cons h]; simp [at8, h]
/-- A text's bytes up to two noughts: the text, and how many bytes. -/
def textD : List UInt8 → Option (List UInt8 × Nat)
  | [] => none
  | [c] => none
  | c :: d :: l => if c ≠ 0 then (textD (d :: l)).map fun p => (c :: p.1, p.2 + 1) else if d = 0 then some ([], 2) else if d = 255 then (textD l).map fun p => (0 :: p.1, p.2 + 2) else none
theorem textD_step (c : UInt8) (l : List UInt8) (h : c ≠ 0) : textD (c :: l) = (textD l).map fun p => (c :: p.1, p.2 + 1) := by
  cases l with
  | nil => rfl
  | cons d l => simp [textD, h]
theorem textD_esc : ∀ (l r : List UInt8), textD (esc l ++ 0 :: 0 :: r) = some (l, (esc l).length + 2)
  | [], r => by simp [esc, textD]
  | c :: l, r => by
    by_cases h : c = 0
    · subst h
      simp [esc, textD, textD_esc l r]
    · simp only [esc, if_neg h, List.cons_append, List.length_cons]
      rw [textD_step c _ h, textD_esc l r]
      simp
theorem textD_sound : ∀ (n : Nat) (l t : List UInt8) (k : Nat), l.length ≤ n → textD l = some (t, k) → k ≤ l.length ∧ esc t ++ [0, 0] = l.take k
  | n, [], t, k, _, h => by simp [textD] at h
  | n, [c], t, k, _, h => by simp [textD] at h
  | 0, c :: d :: l, t, k, hn, h => by simp at hn
  | n + 1, c :: d :: l, t, k, hn, h => by
    simp only [List.length_cons] at hn
    simp only [textD] at h
    split at h
    · rename_i hc
      cases e : textD (d :: l) with
      | none => rw [e] at h; simp at h
      | some p =>
        rw [e] at h
        simp only [Option.map_some, Option.some.injEq, Prod.mk.injEq] at h
        obtain ⟨rfl, rfl⟩ := h
        have := textD_sound n (d :: l) p.1 p.2 (by simp; omega) e
        refine ⟨by simp at this ⊢; omega, ?_⟩
        simp only [esc, if_neg hc, List.cons_append, List.take_succ_cons, this.2]
    · rename_i hc
      have hc : c = 0 := by simpa using hc
      subst hc
      split at h
      · rename_i hd
        subst hd
        simp at h
        obtain ⟨rfl, rfl⟩ := h
        simp [esc]
      · split at h
        · rename_i hd
          subst hd
          cases e : textD l with
          | none => rw [e] at h; simp at h
          | some p =>
            rw [e] at h
            simp only [Option.map_some, Option.some.injEq, Prod.mk.injEq] at h
            obtain ⟨rfl, rfl⟩ := h
            have := textD_sound n l p.1 p.2 (by omega) e
            refine ⟨by simp; omega, ?_⟩
            simp [esc, this.2]
        · cases h
theorem fixed_snoc (n k : Nat) : fixed n (k + 1) true = fixed (n / 256) k true ++ [byteAt n 0] := by
  apply List.ext_getElem
  · simp [fixed]
  · intro p h1 h2
    simp only [fixed, List.length_map, List.length_range] at h1
    by_cases e : p < k
    · rw [List.getElem_append_left (by simpa [fixed] using e)]
      simp only [fixed, List.getElem_map, List.getElem_range, if_true, byteAt]
      congr 1
      have e1 : k + 1 - 1 - p = (k - 1 - p) + 1 := by omega
      rw [e1, Nat.pow_succ, Nat.mul_comm, Nat.div_div_eq_div_mul]
    · have e2 : p = k := by omega
      subst e2
      rw [List.getElem_append_right (by simp [fixed])]
      simp [fixed]
/-- The number of some bytes is the one whose bytes they are. -/
theorem fixed_val : ∀ (size : Nat) (l : List UInt8), l.length = size → fixed (val l) size true = l
  | 0, l, h => by
    have := List.eq_nil_of_length_eq_zero h
    subst this; rfl
  | k + 1, l, h => by
    have hne : l ≠ [] := by intro e; subst e; simp at h
    have hs := List.dropLast_concat_getLast hne
    have hl : l.dropLast.length = k := by simp [h]
    have ih := fixed_val k l.dropLast hl
    have hb := toNat_lt (l.getLast hne)
    rw [← hs, val_snoc, fixed_snoc]
    have e1 : (val l.dropLast * 256 + (l.getLast hne).toNat) / 256 = val l.dropLast := by omega
    have e2 : byteAt (val l.dropLast * 256 + (l.getLast hne).toNat) 0 = l.getLast hne := by
      apply UInt8.toNat_inj.1
      simp only [byteAt, Nat.pow_zero, Nat.div_one, UInt8.toNat_ofNat']
      omega
    rw [e1, e2, ih]
theorem val_fixed : ∀ (size n : Nat), n < 256 ^ size → val (fixed n size true) = n
  | 0, n, h => by
    have : n = 0 := by simpa using h
    subst this; rfl
  | k + 1, n, h => by
    rw [fixed_snoc, val_snoc, val_fixed k (n / 256) (by rw [Nat.pow_succ] at h; omega)]
    have e2 : (byteAt n 0).toNat = n % 256 := by simp [byteAt, UInt8.toNat_ofNat']
    rw [e2]; omega
/-- The item that bytes begin with, and how many bytes it has. -/
def plainD : List UInt8 → Option (KIt × Nat)
  | [] => none
  | c :: l => if c = 0x10 then some (.nil, 1) else if c = 0x20 then some (.no, 1) else if c = 0x21 then some (.yes, 1)
    else if c = 0x30 then (if l.length < 8 then none else some (.int ((val (l.take 8) : Int) - 9223372036854775808), 9))
    else if c = 0x40 then (if l.length < 8 then none else some (.uint (val (l.take 8)), 9))
    else if c = 0x50 then (textD l).map fun p => (.text p.1, p.2 + 1) else none
theorem plainD_enc (x : KIt) (h : x.ok) (r : List UInt8) : plainD (x.enc ++ r) = some (x, x.enc.length) := by
  cases x with
  | nil => rfl
  | no => rfl
  | yes => rfl
  | int n =>
    simp only [KIt.ok] at h
    have h1 : (n + 9223372036854775808).toNat < 256 ^ 8 := by simp; omega
    simp only [KIt.enc, List.cons_append, plainD, List.length_append, fixed_length, List.length_cons]
    rw [if_neg (by decide), if_neg (by decide), if_neg (by decide), if_pos trivial, if_neg (by omega)]
    rw [List.take_append_of_le_length (by simp [fixed_length]), List.take_of_length_le (by simp [fixed_length]), val_fixed 8 _ h1]
    simp; omega
  | uint n =>
    simp only [KIt.ok] at h
    have h1 : n < 256 ^ 8 := by simp; omega
    simp only [KIt.enc, List.cons_append, plainD, List.length_append, fixed_length, List.length_cons]
    rw [if_neg (by decide), if_neg (by decide), if_neg (by decide), if_neg (by decide), if_pos trivial, if_neg (by omega)]
    rw [List.take_append_of_le_length (by simp [fixed_length]), List.take_of_length_le (by simp [fixed_length]), val_fixed 8 _ h1]
  | text l =>
    simp only [KIt.enc, List.cons_append, plainD, List.append_assoc, List.nil_append]
    rw [if_neg (by decide), if_neg (by decide), if_neg (by decide), if_neg (by decide), if_neg (by decide), if_pos trivial, textD_esc]
    simp
theorem plainD_sound (s : List UInt8) (x : KIt) (n : Nat) (hs : s.length ≤ 1000000) (h : plainD s = some (x, n)) : x.ok ∧ 1 ≤ n ∧ n ≤ s.length ∧ x.enc = s.take n := by
  cases s with
  | nil => cases h
  | cons c l =>
    simp only [plainD] at h
    split at h
    · rename_i e; subst e; simp at h; obtain ⟨rfl, rfl⟩ := h; exact ⟨trivial, by simp, by simp, rfl⟩
    split at h
    · rename_i e; subst e; simp at h; obtain ⟨rfl, rfl⟩ := h; exact ⟨trivial, by simp, by simp, rfl⟩
    split at h
    · rename_i e; subst e; simp at h; obtain ⟨rfl, rfl⟩ := h; exact ⟨trivial, by simp, by simp, rfl⟩
    split at h
    · rename_i e; subst e
      split at h
      · cases h
      · rename_i hl
        simp at h; obtain ⟨rfl, rfl⟩ := h
        have hv := val_lt (l.take 8)
        have h8 : (l.take 8).length = 8 := by simp; omega
        rw [h8] at hv
        refine ⟨⟨by omega, ?_⟩, by omega, by simp; omega, ?_⟩
        · have : (256 : Nat) ^ 8 = 18446744073709551616 := by decide
          omega
        · have e : ((val (l.take 8) : Int) - 9223372036854775808 + 9223372036854775808).toNat = val (l.take 8) := by omega
          simp only [KIt.enc, e, fixed_val 8 _ h8, List.take_succ_cons]
    split at h
    · rename_i e; subst e
      split at h
      · cases h
      · rename_i hl
        simp at h; obtain ⟨rfl, rfl⟩ := h
        have hv := val_lt (l.take 8)
        have h8 : (l.take 8).length = 8 := by simp; omega
        rw [h8] at hv
        refine ⟨by show _ < 2 ^ 64; exact hv, by omega, by simp; omega, ?_⟩
        simp only [KIt.enc, fixed_val 8 _ h8, List.take_succ_cons]
    split at h
    · rename_i e; subst e
      cases ht : textD l with
      | none => rw [ht] at h; cases h
      | some p =>
        rw [ht] at h
        simp only [Option.map_some, Option.some.injEq, Prod.mk.injEq] at h
        obtain ⟨rfl, rfl⟩ := h
        obtain ⟨h1, h2⟩ := textD_sound l.length l p.1 p.2 (Nat.le_refl _) ht
        have h3 := congrArg List.length h2
        have h4 := (esc_length p.1).1
        simp at h3 hs
        refine ⟨by show p.1.length ≤ 1048576; omega, by omega, by simp; omega, ?_⟩
        simp only [KIt.enc, h2, List.take_succ_cons]
    · cases h
def itemD (b : List UInt8) : Option (KItem × Nat) := (plainD (if 128 ≤ (at8 b 0).toNat then turn b else b)).map fun p => (⟨p.1, decide (128 ≤ (at8 b 0).toNat)⟩, p.2)
theorem turn_head (c : UInt8) : (255 - c).toNat = 255 - c.toNat := by
  have h := c.toNat_lt
  rw [UInt8.toNat_sub_of_le]
  · rfl
  · rw [UInt8.le_iff_toNat_le]; show c.toNat ≤ 255; omega
theorem turn_append (l r : List UInt8) : turn (l ++ r) = turn l ++ turn r := by simp [turn]
theorem itemD_enc (a : KItem) (h : a.x.ok) (r : List UInt8) : itemD (a.enc ++ r) = some (a, a.enc.length) := by
  obtain ⟨x, d⟩ := a
  obtain ⟨c, s, hc, hc2⟩ := KIt.enc_head x
  cases d
  · have hh : at8 (KItem.enc ⟨x, false⟩ ++ r) 0 = c := by simp [KItem.enc, hc, at8]
    simp only [itemD, hh]
    rw [if_neg (by omega), decide_eq_false (by omega)]
    simp only [KItem.enc, Bool.false_eq_true, if_false]
    rw [plainD_enc x h]; rfl
  · have hh : at8 (KItem.enc ⟨x, true⟩ ++ r) 0 = 255 - c := by simp [KItem.enc, hc, at8, turn]
    have h1 := turn_head c
    simp only [itemD, hh]
    rw [if_pos (by omega), decide_eq_true (by omega)]
    simp only [KItem.enc, if_true]
    rw [turn_append, turn_turn, plainD_enc x h]
    simp [turn]
theorem itemD_sound (b : List UInt8) (a : KItem) (n : Nat) (hs : b.length ≤ 1000000) (h : itemD b = some (a, n)) : a.x.ok ∧ 1 ≤ n ∧ n ≤ b.length ∧ a.enc = b.take n := by
  unfold itemD at h
  cases hp : plainD (if 128 ≤ (at8 b 0).toNat then turn b else b) with
  | none => rw [hp] at h; cases h
  | some p =>
    rw [hp] at h
    simp only [Option.map_some, Option.some.injEq, Prod.mk.injEq] at h
    obtain ⟨rfl, rfl⟩ := h
    by_cases e : 128 ≤ (at8 b 0).toNat
    · rw [if_pos e] at hp
      obtain ⟨h1, h2, h3, h4⟩ := plainD_sound _ p.1 p.2 (by simpa [turn] using hs) hp
      refine ⟨h1, h2, by simpa [turn] using h3, ?_⟩
      simp only [KItem.enc, decide_eq_true e, if_true, h4]
      have : (turn b).take p.2 = turn (b.take p.2) := by simp [turn, List.map_take]
      rw [this, turn_turn]
    · rw [if_neg e] at hp
      obtain ⟨h1, h2, h3, h4⟩ := plainD_sound _ p.1 p.2 hs hp
      refine ⟨h1, h2, h3, ?_⟩
      simp only [KItem.enc, decide_eq_false e, Bool.false_eq_true, if_false, h4]
/-- The tuple of bytes; k: rounds. -/
def dec : Nat → List UInt8 → Option (List KItem)
  | 0, b => if b = [] then some [] else none
  | k + 1, b => if b = [] then some [] else match itemD b with
    | none => none
    | some p => (dec k (b.drop p.2)).map (p.1 :: ·)
theorem dec_enc : ∀ (l : List KItem) (k : Nat), (∀ a ∈ l, a.x.ok) → (encAll l).length ≤ k → dec k (encAll l) = some l
  | [], k, _, _ => by cases k <;> simp [dec, encAll]
  | a :: l, k, h, hk => by
    have e : encAll (a :: l) = a.enc ++ encAll l := by simp [encAll]
    have h1 : a.enc ≠ [] := by
      obtain ⟨x, d⟩ := a
      obtain ⟨c, s, hc, _⟩ := KIt.enc_head x
      cases d <;> simp [KItem.enc, hc, turn]
    have h2 : 1 ≤ a.enc.length := by cases e : a.enc with | nil => exact absurd e h1 | cons => simp
    rw [e] at hk ⊢
    simp only [List.length_append] at hk
    cases k with
    | zero => omega
    | succ k =>
      simp only [dec]
      rw [if_neg (by simp [h1]), itemD_enc a (h a (by simp))]
      simp only [List.drop_left]
      rw [dec_enc l k (fun b hb => h b (by simp [hb])) (by omega)]
      rfl
theorem dec_sound : ∀ (k : Nat) (b : List UInt8) (l : List KItem), b.length ≤ 1000000 → dec k b = some l → (∀ a ∈ l, a.x.ok) ∧ encAll l = b ∧ l.length ≤ b.length
  | 0, b, l, _, h => by
    simp only [dec] at h
    split at h
    · rename_i e; subst e; simp at h; subst h; exact ⟨by simp, rfl, by simp⟩
    · cases h
  | k + 1, b, l, hb, h => by
    simp only [dec] at h
    split at h
    · rename_i e; subst e; simp at h; subst h; exact ⟨by simp, rfl, by simp⟩
    · cases hi : itemD b with
      | none => rw [hi] at h; cases h
      | some p =>
        rw [hi] at h
        simp only at h
        cases hd : dec k (b.drop p.2) with
        | none => rw [hd] at h; cases h
        | some m =>
          rw [hd] at h
          simp at h; subst h
          obtain ⟨h1, h2, h3, h4⟩ := itemD_sound b p.1 p.2 hb hi
          obtain ⟨h5, h6, h7⟩ := dec_sound k _ m (by simp; omega) hd
          refine ⟨?_, ?_, ?_⟩
          · intro a ha; rcases List.mem_cons.1 ha with rfl | ha
            · exact h1
            · exact h5 a ha
          · have e : encAll (p.1 :: m) = p.1.enc ++ encAll m := by simp [encAll]
            rw [e, h4, h6, List.take_append_drop]
          · simp at h7 ⊢; omega
end Go.Proofs.YtgoaclokjenpkaaDoorS
