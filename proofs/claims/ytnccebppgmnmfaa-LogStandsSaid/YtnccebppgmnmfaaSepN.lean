/- Numbers: bits of whole numbers that aren't below nought, and numbers as bytes. Plain theorems. -/
import Derived.Test.YtnccebppgmnmfaaSepH
set_option linter.unusedVariables false
set_option linter.unusedSimpArgs false
namespace Go.Proofs.YtnccebppgmnmfaaS
open Go.RowKit
theorem wrap_of_lt {k : IntKind} (hk : k.signed = false) {a : Nat} (h : a < 2 ^ k.bits) : k.wrap (a : Int) = a := by
  unfold IntKind.wrap
  simp only [hk, Bool.false_and]
  have : (a : Int) % (2 ^ k.bits : Int) = a := by
    apply Int.emod_eq_of_lt (by omega)
    exact_mod_cast h
  rw [this]; rfl
theorem ibits_or {k : IntKind} (hk : k.signed = false) {a b : Nat} (ha : a < 2 ^ k.bits) (hb : b < 2 ^ k.bits) : ibits .or k a b = ((a ||| b : Nat) : Int) := by
  unfold ibits
  simp only [BitVec.ofInt_natCast, BitVec.toNat_or, BitVec.toNat_ofNat, Nat.mod_eq_of_lt ha, Nat.mod_eq_of_lt hb]
  exact wrap_of_lt hk (Nat.or_lt_two_pow ha hb)
theorem ibits_and {k : IntKind} (hk : k.signed = false) {a b : Nat} (ha : a < 2 ^ k.bits) (hb : b < 2 ^ k.bits) : ibits .and k a b = ((a &&& b : Nat) : Int) := by
  unfold ibits
  simp only [BitVec.ofInt_natCast, BitVec.toNat_and, BitVec.toNat_ofNat, Nat.mod_eq_of_lt ha, Nat.mod_eq_of_lt hb]
  exact wrap_of_lt hk (Nat.and_lt_two_pow _ hb)
theorem ibits_xor {k : IntKind} (hk : k.signed = false) {a b : Nat} (ha : a < 2 ^ k.bits) (hb : b < 2 ^ k.bits) : ibits .xor k a b = ((a ^^^ b : Nat) : Int) := by
  unfold ibits
  simp only [BitVec.ofInt_natCast, BitVec.toNat_xor, BitVec.toNat_ofNat, Nat.mod_eq_of_lt ha, Nat.mod_eq_of_lt hb]
  exact wrap_of_lt hk (Nat.xor_lt_two_pow ha hb)
theorem wrap_u8_nat (m : Nat) : IntKind.u8.wrap (m : Int) = ((UInt8.ofNat m).toNat : Int) := by
  have : (UInt8.ofNat m).toNat = m % 256 := by simp [UInt8.toNat_ofNat']
  rw [this]
  simp only [IntKind.wrap, IntKind.bits, IntKind.signed]
  simp
theorem toNat_lt (b : UInt8) : b.toNat < 256 := b.toNat_lt
theorem or_shift8 (a : Nat) (b : UInt8) (ha : a < 2 ^ 56) : ibits .or .u64 ((a * 256 : Nat) : Int) (b.toNat : Int) = ((a * 256 + b.toNat : Nat) : Int) := by
  have hb := toNat_lt b
  rw [ibits_or rfl (by simp only [IntKind.bits]; omega) (by simp only [IntKind.bits]; omega)]
  congr 1
  have h := Nat.shiftLeft_add_eq_or_of_lt (i := 8) (b := b.toNat) (by omega) a
  rw [Nat.shiftLeft_eq] at h
  exact h.symm
/-- Bytes that are turned: 255 less each. -/
theorem inv_u8 (b : UInt8) : ibits .xor .u8 (if IntKind.u8.signed then -1 else IntKind.u8.max) (b.toNat : Int) = ((255 - b).toNat : Int) := by
  have h1 : (if IntKind.u8.signed then -1 else IntKind.u8.max) = ((255 : Nat) : Int) := rfl
  rw [h1, ibits_xor rfl (by decide) (toNat_lt b)]
  have h2 : ∀ n : Nat, n < 256 → 255 ^^^ n = 255 - n := by decide +kernel
  have h3 : (255 - b).toNat = 255 - b.toNat := by
    have := toNat_lt b
    rw [UInt8.toNat_sub_of_le]
    · rfl
    · rw [UInt8.le_iff_toNat_le]; show b.toNat ≤ 255; omega
  rw [h2 _ (toNat_lt b), h3]
/-! ### Numbers as bytes, all of one size -/
def byteAt (n i : Nat) : UInt8 := UInt8.ofNat (n / 256 ^ i)
def fx (n size : Nat) (big : Bool) (i : Nat) : List UInt8 := (List.range size).map fun p => if (if big then size - 1 - p else p) < i then byteAt n (if big then size - 1 - p else p) else 0
def fixed (n size : Nat) (big : Bool) : List UInt8 := (List.range size).map fun p => byteAt n (if big then size - 1 - p else p)
theorem fx_length (n size : Nat) (big : Bool) (i : Nat) : (fx n size big i).length = size := by simp [fx]
theorem fixed_length (n size : Nat) (big : Bool) : (fixed n size big).length = size := by simp [fixed]
theorem fx_zero (n size : Nat) (big : Bool) : fx n size big 0 = List.replicate size 0 := by
  apply List.ext_getElem <;> simp [fx]
theorem fx_all (n size : Nat) (big : Bool) : fx n size big size = fixed n size big := by
  apply List.ext_getElem
  · simp [fx, fixed]
  · intro i h1 h2
    simp [fx, fixed] at h1 h2 ⊢
    intro h
    cases big <;> simp at h <;> omega
theorem fx_succ (n size : Nat) (big : Bool) (i : Nat) (h : i < size) : (fx n size big i).set (if big then size - 1 - i else i) (byteAt n i) = fx n size big (i + 1) := by
  apply List.ext_getElem
  · simp [fx]
  · intro j h1 h2
    simp only [List.length_set, fx_length] at h1
    rw [List.getElem_set]
    simp only [fx, List.getElem_map, List.getElem_range]
    cases big
    · simp only [Bool.false_eq_true, if_false]
      by_cases e : i = j
      · subst e; simp
      · rw [if_neg e]
        by_cases e2 : j < i
        · rw [if_pos e2, if_pos (by omega)]
        · rw [if_neg e2, if_neg (by omega)]
    · simp only [if_true]
      by_cases e : size - 1 - i = j
      · subst e
        rw [if_pos rfl, if_pos (by omega)]
        congr 1; omega
      · rw [if_neg e]
        by_cases e2 : size - 1 - j < i
        · rw [if_pos e2, if_pos (by omega)]
        · rw [if_neg e2, if_neg (by omega)]
theorem u8s_set (l : List UInt8) (i : Nat) (b : UInt8) : (u8s l).set i (u8v b) = u8s (l.set i b) := by simp [u8s, List.map_set]
theorem made_u8 (m : Nat) : (madeCells (Value.int .u8 0).cells (m * 1)).toList = u8s (List.replicate m 0) := by
  apply List.ext_getElem
  · simp [madeCells, u8s]
  · intro i h1 h2
    simp [madeCells, u8s, u8v, Value.cells, Nat.mod_one]
theorem shr8 (n i : Nat) (h : i ≤ 7) : (n : Int).fdiv (2 ^ (min ((8 * (i : Int)).toNat) IntKind.u64.bits)) = ((n / 256 ^ i : Nat) : Int) := by
  have h1 : min ((8 * (i : Int)).toNat) IntKind.u64.bits = 8 * i := by simp only [IntKind.bits]; omega
  rw [h1]
  have h2 : (2 : Int) ^ (8 * i) = ((256 ^ i : Nat) : Int) := by
    rw [Int.pow_mul]
    simp
  rw [h2, Int.fdiv_eq_ediv_of_nonneg _ (Int.natCast_nonneg _)]
  exact_mod_cast rfl
theorem u8_conv (m : Nat) : IntKind.u8.wrap (m : Int) = ((UInt8.ofNat m).toNat : Int) := wrap_u8_nat m
theorem blt_of {a b : Nat} (h : a < b) : Nat.blt a b = true := by simpa [Nat.blt_eq] using h
theorem u8s_get {l : List UInt8} {m : List Value} : ∀ j q, l[j]? = some q → (u8s l ++ m)[0 + j]? = some (u8v q) := fun j q h => by
  have hj : j < l.length := (List.getElem?_eq_some_iff.1 h).1
  rw [Nat.zero_add, List.getElem?_append_left (by simpa [u8s] using hj)]
  simp [u8s, h]
theorem u8s_get0 {l : List UInt8} : ∀ j q, l[j]? = some q → (u8s l)[0 + j]? = some (u8v q) := fun j q h => by
  rw [Nat.zero_add]; simp [u8s, h]
/-- The number of bytes, the greatest first. -/
def val (l : List UInt8) : Nat := l.foldl (fun n b => n * 256 + b.toNat) 0
theorem val_snoc (l : List UInt8) (b : UInt8) : val (l ++ [b]) = val l * 256 + b.toNat := by simp [val]
theorem val_from (l : List UInt8) : ∀ a : Nat, l.foldl (fun n b => n * 256 + b.toNat) a < (a + 1) * 256 ^ l.length := by
  induction l with
  | nil => intro a; simp
  | cons b l ih =>
    intro a
    have h1 := ih (a * 256 + b.toNat)
    have h2 := toNat_lt b
    simp only [List.foldl_cons, List.length_cons, Nat.pow_succ]
    refine Nat.lt_of_lt_of_le h1 ?_
    have h3 : a * 256 + b.toNat + 1 ≤ (a + 1) * 256 := by omega
    calc (a * 256 + b.toNat + 1) * 256 ^ l.length ≤ ((a + 1) * 256) * 256 ^ l.length := Nat.mul_le_mul_right _ h3
      _ = (a + 1) * (256 ^ l.length * 256) := by rw [Nat.mul_assoc, Nat.mul_comm 256]
theorem val_lt (l : List UInt8) : val l < 256 ^ l.length := by
  have := val_from l 0
  simpa [val] using this
end Go.Proofs.YtnccebppgmnmfaaS
