/- The reference's items as plain data; no bytes of one item begin with another's. Plain Lean. -/
import Derived.Test.YtgoaclokjenpkaaDoorKeysP
set_option linter.unusedVariables false
set_option linter.unusedSimpArgs false
namespace Go.Proofs.YtgoaclokjenpkaaDoorS
structure RI where
  kind : Nat
  int : Int
  uint : Nat
  text : List UInt8
  down : Bool
def RI.ok (r : RI) : Prop := r.kind < 256 ∧ -9223372036854775808 ≤ r.int ∧ r.int ≤ 9223372036854775807 ∧ r.uint < 2 ^ 64
def RI.cells (r : RI) : List Value := [.int .u8 (r.kind : Int), .int .i64 r.int, .int .u64 (r.uint : Int), .string (bs r.text), .bool r.down]
def RI.kit (r : RI) : KIt :=
  if r.kind % 6 = 1 then .no else if r.kind % 6 = 2 then .yes else if r.kind % 6 = 3 then .int r.int else if r.kind % 6 = 4 then .uint r.uint else if r.kind % 6 = 5 then .text r.text else .nil
def RI.item (r : RI) : KItem := ⟨r.kit, r.down⟩
theorem RI.item_ok (r : RI) (h : r.ok) (ht : r.text.length ≤ 1048576) : r.item.x.ok := by
  unfold RI.item RI.kit
  dsimp only
  split
  · trivial
  split
  · trivial
  split
  · exact ⟨h.2.1, h.2.2.1⟩
  split
  · exact h.2.2.2
  split
  · exact ht
  · trivial
def rfew (l : List RI) : Bool := (l.take 50).all (fun r => decide (r.text.length ≤ 100)) && decide (l.length ≤ 12)
theorem rfew_text {l : List RI} (h : rfew l = true) : ∀ r ∈ l, r.text.length ≤ 100 := by
  simp only [rfew, Bool.and_eq_true, List.all_eq_true, decide_eq_true_eq] at h
  intro r hr
  rw [List.take_of_length_le (by omega)] at h
  exact h.1 r hr
theorem esc_cancel : ∀ (l m r s : List UInt8), esc l ++ 0 :: 0 :: r = esc m ++ 0 :: 0 :: s → l = m ∧ r = s
  | [], [], r, s, h => by simpa [esc] using h
  | [], c :: m, r, s, h => by
    exfalso
    simp only [esc] at h
    split at h
    · simp at h
    · rename_i hc; simp at h; exact hc h.1.symm
  | c :: l, [], r, s, h => by
    exfalso
    simp only [esc] at h
    split at h
    · simp at h
    · rename_i hc; simp at h; exact hc h.1
  | c :: l, d :: m, r, s, h => by
    simp only [esc] at h
    by_cases hc : c = 0 <;> by_cases hd : d = 0
    · subst hc hd
      simp only [if_true, List.cons_append, List.cons.injEq, true_and] at h
      obtain ⟨h1, h2⟩ := esc_cancel l m r s h
      exact ⟨by rw [h1], h2⟩
    · subst hc
      simp only [if_true, if_neg hd, List.cons_append, List.cons.injEq] at h
      exact absurd h.1.symm hd
    · subst hd
      simp only [if_true, if_neg hc, List.cons_append, List.cons.injEq] at h
      exact absurd h.1 hc
    · simp only [if_neg hc, if_neg hd, List.cons_append, List.cons.injEq] at h
      obtain ⟨h1, h2⟩ := esc_cancel l m r s h.2
      exact ⟨by rw [h.1, h1], h2⟩
/-- Where one item's bytes stand ahead, no other's do. -/
theorem KIt.enc_prefix (x y : KIt) (r : List UInt8) (h : y.enc = x.enc ++ r) : r = [] := by
  have hl := congrArg List.length h
  cases x <;> cases y <;> simp only [KIt.enc, List.cons_append, List.nil_append, List.cons.injEq, List.length_cons, List.length_append, List.length_nil, fixed_length] at h hl <;>
    first
    | (exact absurd h.1 (by decide))
    | exact List.eq_nil_of_length_eq_zero (by omega)
    | skip
  rename_i l m
  have h2 := esc_cancel l m r [] (by simpa using h.2.symm)
  exact h2.2
theorem KIt.enc_head (x : KIt) : ∃ c r, x.enc = c :: r ∧ c.toNat < 128 := by
  cases x <;> exact ⟨_, _, rfl, by decide⟩
theorem turn_turn (l : List UInt8) : turn (turn l) = l := by
  simp only [turn, List.map_map]
  have : ((fun x : UInt8 => 255 - x) ∘ fun x => 255 - x) = id := by
    funext x
    simp only [Function.comp, id]
    apply UInt8.toNat_inj.1
    have h := x.toNat_lt
    have h1 : (255 - x).toNat = 255 - x.toNat := by
      rw [UInt8.toNat_sub_of_le]
      · rfl
      · rw [UInt8.le_iff_toNat_le]; show x.toNat ≤ 255; omega
    have h2 : (255 - (255 - x)).toNat = 255 - (255 - x).toNat := by
      rw [UInt8.toNat_sub_of_le]
      · rfl
      · rw [UInt8.le_iff_toNat_le, h1]; show 255 - x.toNat ≤ 255; omega
    rw [h2, h1]; omega
  rw [this]; simp
theorem KItem.enc_prefix (x y : KItem) (r : List UInt8) (h : y.enc = x.enc ++ r) : r = [] := by
  obtain ⟨x, d⟩ := x
  obtain ⟨y, e⟩ := y
  obtain ⟨c, s, hc, hc2⟩ := KIt.enc_head x
  obtain ⟨c', s', hc', hc2'⟩ := KIt.enc_head y
  have top : ∀ b : UInt8, b.toNat < 128 → 128 ≤ (255 - b).toNat := fun b hb => by
    have h1 : (255 - b).toNat = 255 - b.toNat := by
      rw [UInt8.toNat_sub_of_le]
      · rfl
      · rw [UInt8.le_iff_toNat_le]; show b.toNat ≤ 255; omega
    omega
  cases d <;> cases e <;> simp only [KItem.enc, if_true, Bool.false_eq_true, if_false] at h
  · exact KIt.enc_prefix x y r h
  · exfalso
    rw [hc, hc'] at h
    simp only [turn, List.map_cons, List.cons_append, List.cons.injEq] at h
    have := top c' hc2'
    rw [h.1] at this; omega
  · exfalso
    rw [hc, hc'] at h
    simp only [turn, List.map_cons, List.cons_append, List.cons.injEq] at h
    have := top c hc2
    rw [← h.1] at this; omega
  · have h2 := congrArg turn h
    rw [turn_turn] at h2
    have h3 : turn (turn x.enc ++ r) = x.enc ++ turn r := by
      have := turn_turn x.enc
      simp only [turn, List.map_append] at this ⊢
      rw [this]
    rw [h3] at h2
    have h4 := KIt.enc_prefix x y _ h2
    simpa [turn] using h4
theorem first_law (x y : KItem) (h1 : x.enc.length ≤ y.enc.length) (h2 : y.enc.take x.enc.length = x.enc) : x.enc = y.enc := by
  have h := List.take_append_drop x.enc.length y.enc
  rw [h2] at h
  have h3 := KItem.enc_prefix x y _ h.symm
  rw [h3, List.append_nil] at h
  exact h
end Go.Proofs.YtgoaclokjenpkaaDoorS
