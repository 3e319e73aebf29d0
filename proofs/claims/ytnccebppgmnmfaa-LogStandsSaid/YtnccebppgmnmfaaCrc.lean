/- Sums of bytes: by bits, and by a table. Plain Lean. -/
import Derived.Test.YtnccebppgmnmfaaSepI
set_option linter.unusedVariables false
set_option linter.unusedSimpArgs false
namespace Go.Proofs.YtnccebppgmnmfaaS
def poly : Nat := 2197175160
def step (c : Nat) : Nat := if c % 2 = 1 then c / 2 ^^^ poly else c / 2
def steps : Nat → Nat → Nat
  | 0, c => c
  | n + 1, c => steps n (step c)
theorem xor_half (a b : Nat) : (a ^^^ b) / 2 = a / 2 ^^^ b / 2 := by
  apply Nat.eq_of_testBit_eq
  intro i
  simp [Nat.testBit_div_two, Nat.testBit_xor]
theorem xor_odd (a b : Nat) : (a ^^^ b) % 2 = (a + b) % 2 := by
  have h := Nat.testBit_xor a b 0
  simp only [Nat.testBit_zero] at h
  have ha : a % 2 = 0 ∨ a % 2 = 1 := by omega
  have hb : b % 2 = 0 ∨ b % 2 = 1 := by omega
  have hc : (a ^^^ b) % 2 = 0 ∨ (a ^^^ b) % 2 = 1 := by omega
  rcases ha with ha | ha <;> rcases hb with hb | hb <;> rcases hc with hc | hc <;> simp [ha, hb, hc] at h <;> omega
theorem step_xor (a b : Nat) : step (a ^^^ b) = step a ^^^ step b := by
  have ho := xor_odd a b
  unfold step
  rw [xor_half]
  by_cases ha : a % 2 = 1 <;> by_cases hb : b % 2 = 1
  · rw [if_neg (by omega), if_pos ha, if_pos hb]
    rw [Nat.xor_assoc, Nat.xor_comm poly, Nat.xor_assoc, Nat.xor_self, Nat.xor_zero]
  · rw [if_pos (by omega), if_pos ha, if_neg hb, Nat.xor_assoc, Nat.xor_assoc, Nat.xor_comm poly]
  · rw [if_pos (by omega), if_neg ha, if_pos hb, Nat.xor_assoc]
  · rw [if_neg (by omega), if_neg ha, if_neg hb]
theorem steps_xor : ∀ (n a b : Nat), steps n (a ^^^ b) = steps n a ^^^ steps n b
  | 0, a, b => rfl
  | n + 1, a, b => by simp only [steps, step_xor, steps_xor n]
theorem steps_high : ∀ (n m : Nat), steps n (2 ^ n * m) = m
  | 0, m => by simp [steps]
  | n + 1, m => by
    have e : step (2 ^ (n + 1) * m) = 2 ^ n * m := by
      unfold step
      have : 2 ^ (n + 1) * m = 2 * (2 ^ n * m) := by rw [Nat.pow_succ]; simp [Nat.mul_comm, Nat.mul_left_comm]
      rw [this, if_neg (by omega)]; omega
    simp only [steps, e, steps_high n]
theorem split8 (c : Nat) : c = 2 ^ 8 * (c / 256) ^^^ (c % 256) := by
  have h1 : c % 256 < 2 ^ 8 := Nat.mod_lt _ (by decide)
  have h2 : 2 ^ 8 * (c / 256) + c % 256 = c := by have := Nat.div_add_mod c 256; simpa using this
  have h3 := Nat.two_pow_add_eq_or_of_lt h1 (c / 256)
  have h4 : 2 ^ 8 * (c / 256) ||| c % 256 = 2 ^ 8 * (c / 256) ^^^ c % 256 := by
    apply Nat.eq_of_testBit_eq
    intro i
    rw [Nat.testBit_or, Nat.testBit_xor, Nat.testBit_two_pow_mul]
    by_cases h : i < 8
    · simp [Nat.not_le.2 h]
    · have : (c % 256).testBit i = false := Nat.testBit_lt_two_pow (Nat.lt_of_lt_of_le h1 (Nat.pow_le_pow_right (by decide) (by omega)))
      simp [this]
  rw [← h4, ← h3, h2]
def tabN (i : Nat) : Nat := steps 8 i
theorem tab_law (c b : Nat) : steps 8 (c ^^^ b) = tabN ((c % 256) ^^^ b) ^^^ c / 256 := by
  have e : c ^^^ b = 2 ^ 8 * (c / 256) ^^^ ((c % 256) ^^^ b) := by
    conv => lhs; rw [split8 c]
    rw [Nat.xor_assoc]
  rw [e, steps_xor, steps_high, Nat.xor_comm]; rfl
theorem poly_lt : poly < 2 ^ 32 := by decide
theorem step_lt {c : Nat} (h : c < 2 ^ 32) : step c < 2 ^ 32 := by
  unfold step
  split
  · exact Nat.xor_lt_two_pow (by omega) poly_lt
  · omega
theorem steps_lt : ∀ (n : Nat) {c : Nat}, c < 2 ^ 32 → steps n c < 2 ^ 32
  | 0, c, h => h
  | n + 1, c, h => steps_lt n (step_lt h)
theorem tabN_lt {i : Nat} (h : i < 256) : tabN i < 2 ^ 32 := steps_lt 8 (by omega)
def crcFrom (c : Nat) (l : List UInt8) : Nat := l.foldl (fun c b => steps 8 (c ^^^ b.toNat)) c
theorem crcFrom_lt : ∀ (l : List UInt8) {c : Nat}, c < 2 ^ 32 → crcFrom c l < 2 ^ 32
  | [], c, h => h
  | b :: l, c, h => crcFrom_lt l (steps_lt 8 (Nat.xor_lt_two_pow h (by have := b.toNat_lt; omega)))
theorem crcFrom_snoc (c : Nat) (l : List UInt8) (b : UInt8) : crcFrom c (l ++ [b]) = steps 8 (crcFrom c l ^^^ b.toNat) := by simp [crcFrom]
/-- The sum of bytes. -/
def crcSum (l : List UInt8) : Nat := 4294967295 - crcFrom 4294967295 l
theorem ones_sub {c : Nat} (h : c < 2 ^ 32) : c ^^^ 4294967295 = 4294967295 - c := by
  have e : 4294967295 - c = 2 ^ 32 - (c + 1) := by omega
  rw [e]
  apply Nat.eq_of_testBit_eq
  intro i
  rw [Nat.testBit_two_pow_sub_succ h, Nat.testBit_xor]
  have h1 : (4294967295 : Nat) = 2 ^ 32 - 1 := by decide
  rw [h1, Nat.testBit_two_pow_sub_one]
  by_cases hi : i < 32
  · simp [hi]
  · have : c.testBit i = false := Nat.testBit_lt_two_pow (Nat.lt_of_lt_of_le h (Nat.pow_le_pow_right (by decide) (by omega)))
    simp [hi, this]
theorem crcSum_lt (l : List UInt8) : crcSum l < 2 ^ 32 := by unfold crcSum; omega
end Go.Proofs.YtnccebppgmnmfaaS
