/- Items and their bytes, in plain Lean: no program in sight. -/
import Derived.Test.YtgoaclokjenpkaaDoorSepQ
import Derived.Lib.Replace
import Derived.Lib.IndexLaws
set_option linter.unusedVariables false
set_option linter.unusedSimpArgs false
namespace Go.Proofs.YtgoaclokjenpkaaDoorS
/-- A text's bytes: a nought is followed by 255. -/
def esc : List UInt8 → List UInt8
  | [] => []
  | c :: l => if c = 0 then 0 :: 255 :: esc l else c :: esc l
theorem esc_length (l : List UInt8) : l.length ≤ (esc l).length ∧ (esc l).length ≤ 2 * l.length := by
  induction l with
  | nil => simp [esc]
  | cons c l ih => simp only [esc]; split <;> simp only [List.length_cons] <;> omega
theorem index_cons_ne (c : UInt8) (l : List UInt8) (h : c ≠ 0) : Lib.index (c :: l) [0] = if Lib.index l [0] = -1 then -1 else Lib.index l [0] + 1 := by
  have h1 : Lib.NoOcc (c :: l) [0] 1 := by
    intro j hj
    obtain rfl : j = 0 := by omega
    simp only [Lib.occAt, List.drop_zero]
    simp [List.isPrefixOf, Ne.symm h]
  have := Lib.index_drop h1 (by simp)
  simpa using this
theorem replaceK_cons_ne (new : List UInt8) (k : Nat) (c : UInt8) (l : List UInt8) (h : c ≠ 0) : Lib.replaceK [0] new k (c :: l) = c :: Lib.replaceK [0] new k l := by
  cases k with
  | zero => rfl
  | succ k =>
    have hi := index_cons_ne c l h
    have hg := Lib.index_ge l [0]
    simp only [Lib.replaceK, hi]
    by_cases e : Lib.index l [0] = -1
    · simp [e]
    · have h1 : ¬ (Lib.index l [0] + 1 = -1) := by omega
      have h2 : (Lib.index l [0] + 1).toNat = (Lib.index l [0]).toNat + 1 := by omega
      simp [e, h1, h2, Nat.add_right_comm]
theorem replaceK_esc : ∀ (l : List UInt8), Lib.replaceK [0] [0, 255] (l.count 0) l = esc l
  | [] => rfl
  | c :: l => by
    by_cases h : c = 0
    · subst h
      have hi : Lib.index (0 :: l) [0] = 0 := Lib.index_first (i := 0) (Nat.zero_le _) (by simp [Lib.occAt]) (fun _ h => absurd h (Nat.not_lt_zero _))
      rw [List.count_cons_self, Lib.replaceK_hit [0] [0, 255] _ _ 0 hi]
      simp only [List.take_zero, List.nil_append, List.length_cons, List.length_nil, Nat.zero_add, List.drop_succ_cons, List.drop_zero]
      rw [replaceK_esc l]
      simp [esc]
    · rw [replaceK_cons_ne _ _ _ _ h, List.count_cons_of_ne (by simpa using h), replaceK_esc l, esc, if_neg h]
theorem replaceAll_esc (l : List UInt8) : Lib.replaceAll l [0] [0, 255] = esc l := by
  have : ([0] == ([0, 255] : List UInt8)) = false := by decide
  simp only [Lib.replaceAll, Lib.replace, this, Lib.replaceNum]
  simp [Lib.count_one, replaceK_esc]
/-- An item that is no Down. -/
inductive KIt where
  | nil | no | yes
  | int (n : Int)
  | uint (n : Nat)
  | text (l : List UInt8)
def KIt.ok : KIt → Prop
  | .int n => -9223372036854775808 ≤ n ∧ n ≤ 9223372036854775807
  | .uint n => n < 2 ^ 64
  | .text l => l.length ≤ 1048576
  | _ => True
def KIt.enc : KIt → List UInt8
  | .nil => [0x10]
  | .no => [0x20]
  | .yes => [0x21]
  | .int n => 0x30 :: fixed (n + 9223372036854775808).toNat 8 true
  | .uint n => 0x40 :: fixed n 8 true
  | .text l => 0x50 :: (esc l ++ [0, 0])
def turn (l : List UInt8) : List UInt8 := l.map (255 - ·)
theorem turn_length (l : List UInt8) : (turn l).length = l.length := by simp [turn]
theorem turn_step (l : List UInt8) (junk : List Value) (i : Nat) (h : i < l.length) :
    (u8s (turn (l.take i) ++ l.drop i) ++ junk).set (0 + (i : Int).toNat * 1) (.int .u8 ((255 - (at8 l i)).toNat : Int)) = u8s (turn (l.take (i + 1)) ++ l.drop (i + 1)) ++ junk := by
  have h1 : (turn (l.take i)).length = i := by simp [turn]; omega
  have h2 : at8 l (i : Int) = l[i] := by simp [at8, h]
  have h3 : l.drop i = l[i] :: l.drop (i + 1) := by rw [List.drop_eq_getElem_cons h]
  have h4 : turn (l.take (i + 1)) = turn (l.take i) ++ [255 - l[i]] := by
    rw [List.take_add_one, List.getElem?_eq_getElem h]; simp only [turn, List.map_append, Option.toList, List.map_cons, List.map_nil]
  have h5 : 0 + (i : Int).toNat * 1 = (u8s (turn (l.take i))).length := by rw [u8s_length, h1]; omega
  rw [h2, h3, h4, h5, u8s_append, List.append_assoc, List.set_append_right _ _ (Nat.le_refl _), Nat.sub_self]
  simp only [u8s, u8v, List.map_cons, List.cons_append, List.set_cons_zero, turn, List.map_append, List.map_nil, List.nil_append, List.append_assoc]
theorem turn_at (l : List UInt8) (junk : List Value) (i : Nat) (h : i < l.length) :
    (u8s (turn (l.take i) ++ l.drop i) ++ junk)[0 + (i : Int).toNat * 1]? = some (.int .u8 (at8 l i).toNat) := by
  have h1 : (turn (l.take i)).length = i := by simp [turn]; omega
  have h2 : at8 l (i : Int) = l[i] := by simp [at8, h]
  have h3 : l.drop i = l[i] :: l.drop (i + 1) := by rw [List.drop_eq_getElem_cons h]
  have h5 : 0 + (i : Int).toNat * 1 = (u8s (turn (l.take i))).length := by rw [u8s_length, h1]; omega
  rw [h2, h3, h5, u8s_append, List.append_assoc, List.getElem?_append_right (Nat.le_refl _), Nat.sub_self]
  rfl
/-- An item, or a Down of one. -/
structure KItem where
  x : KIt
  down : Bool
def KItem.enc (i : KItem) : List UInt8 := if i.down then turn i.x.enc else i.x.enc
def encAll (l : List KItem) : List UInt8 := (l.map KItem.enc).flatten
theorem KIt.enc_len (x : KIt) (h : x.ok) : x.enc.length ≤ 2100000 := by
  cases x <;> simp only [KIt.enc, List.length_cons, List.length_nil, fixed_length, List.length_append]
  any_goals omega
  rename_i l
  have := (esc_length l).2
  simp only [KIt.ok] at h
  omega
theorem KItem.enc_len (i : KItem) (h : i.x.ok) : i.enc.length ≤ 2100000 := by
  unfold KItem.enc
  split
  · simp only [turn, List.length_map]; exact KIt.enc_len _ h
  · exact KIt.enc_len _ h
theorem encAll_take (l : List KItem) (i : Nat) (a : KItem) (h : l[i]? = some a) : encAll (l.take (i + 1)) = encAll (l.take i) ++ a.enc := by
  have hi : i < l.length := (List.getElem?_eq_some_iff.1 h).1
  rw [List.take_add_one, h]
  simp [encAll]
theorem encAll_len (l : List KItem) (h : ∀ a ∈ l, a.x.ok) : (encAll l).length ≤ l.length * 2100000 := by
  induction l with
  | nil => simp [encAll]
  | cons a l ih =>
    have h1 := KItem.enc_len a (h a (by simp))
    have h2 := ih fun b hb => h b (by simp [hb])
    simp only [encAll, List.map_cons, List.flatten_cons, List.length_append, List.length_cons] at h2 ⊢
    omega
theorem xor_top {a : Nat} (h : a < 2 ^ 63) : a ^^^ 2 ^ 63 = a + 2 ^ 63 := by
  have h1 : a + 2 ^ 63 = 2 ^ 63 * 1 ||| a := by rw [← Nat.two_pow_add_eq_or_of_lt h]; omega
  rw [h1, Nat.mul_one]
  apply Nat.eq_of_testBit_eq
  intro i
  rw [Nat.testBit_xor, Nat.testBit_or, Nat.testBit_two_pow]
  by_cases e : 63 = i
  · subst e; rw [Nat.testBit_lt_two_pow h]; rfl
  · simp [e]
theorem xor_top' {a : Nat} (h : 2 ^ 63 ≤ a) (h2 : a < 2 ^ 64) : a ^^^ 2 ^ 63 = a - 2 ^ 63 := by
  have h1 : a - 2 ^ 63 < 2 ^ 63 := by omega
  have h3 := xor_top h1
  have h4 : a - 2 ^ 63 + 2 ^ 63 = a := by omega
  rw [h4] at h3
  conv => lhs; rw [← h3, Nat.xor_assoc, Nat.xor_self, Nat.xor_zero]
theorem sign_int (n : Int) (h0 : -9223372036854775808 ≤ n) (h1 : n ≤ 9223372036854775807) : ibits .xor .u64 (IntKind.u64.wrap n) 9223372036854775808 = (((n + 9223372036854775808).toNat : Nat) : Int) := by
  have hw : IntKind.u64.wrap n = (((if n < 0 then n + 18446744073709551616 else n).toNat : Nat) : Int) := by
    by_cases h : n < 0
    · rw [if_pos h]; simp only [IntKind.wrap, IntKind.bits, IntKind.signed]; simp; omega
    · rw [if_neg h]; simp only [IntKind.wrap, IntKind.bits, IntKind.signed]; simp; omega
  have hc : (9223372036854775808 : Int) = ((2 ^ 63 : Nat) : Int) := by decide
  by_cases h : n < 0
  · rw [if_pos h] at hw
    rw [hw, hc, ibits_xor rfl (by simp only [IntKind.bits]; omega) (by decide), xor_top' (by omega) (by omega)]
    have e : (n + 18446744073709551616).toNat - 2 ^ 63 = (n + 9223372036854775808).toNat := by omega
    rw [e, hc]
  · rw [if_neg h] at hw
    rw [hw, hc, ibits_xor rfl (by simp only [IntKind.bits]; omega) (by decide), xor_top (by omega)]
    have e : n.toNat + 2 ^ 63 = (n + 9223372036854775808).toNat := by omega
    rw [e, hc]
end Go.Proofs.YtgoaclokjenpkaaDoorS
