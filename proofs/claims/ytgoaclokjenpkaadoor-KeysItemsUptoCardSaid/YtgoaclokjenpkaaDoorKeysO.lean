/- Bytes are in order just as their items and tuples, in plain Lean. -/
import Derived.Test.YtgoaclokjenpkaaDoorKeysD
set_option linter.unusedVariables false
set_option linter.unusedSimpArgs false
namespace Go.Proofs.YtgoaclokjenpkaaDoorS
open Go.Lib
/-- The first difference decides. -/
def Dif (l m : List UInt8) (c : Int) : Prop := ∃ p a l' b m', l = p ++ a :: l' ∧ m = p ++ b :: m' ∧ ((a < b ∧ c = -1) ∨ (b < a ∧ c = 1))
theorem Dif.append {l m : List UInt8} {c : Int} (h : Dif l m c) (r s : List UInt8) : Dif (l ++ r) (m ++ s) c := by
  obtain ⟨p, a, l', b, m', rfl, rfl, h⟩ := h
  exact ⟨p, a, l' ++ r, b, m' ++ s, by simp, by simp, h⟩
theorem Dif.pre {l m : List UInt8} {c : Int} (h : Dif l m c) (q : List UInt8) : Dif (q ++ l) (q ++ m) c := by
  obtain ⟨p, a, l', b, m', rfl, rfl, h⟩ := h
  exact ⟨q ++ p, a, l', b, m', by simp, by simp, h⟩
theorem Dif.swap {l m : List UInt8} {c : Int} (h : Dif l m c) : Dif m l (-c) := by
  obtain ⟨p, a, l', b, m', rfl, rfl, h⟩ := h
  refine ⟨p, b, m', a, l', rfl, rfl, ?_⟩
  rcases h with ⟨h, rfl⟩ | ⟨h, rfl⟩
  · exact .inr ⟨h, rfl⟩
  · exact .inl ⟨h, rfl⟩
theorem dif_turn {l m : List UInt8} {c : Int} (h : Dif l m c) : Dif (turn l) (turn m) (-c) := by
  obtain ⟨p, a, l', b, m', rfl, rfl, h⟩ := h
  refine ⟨turn p, 255 - a, turn l', 255 - b, turn m', by simp [turn], by simp [turn], ?_⟩
  have ha := turn_head a
  have hb := turn_head b
  have la := a.toNat_lt
  have lb := b.toNat_lt
  rcases h with ⟨h, rfl⟩ | ⟨h, rfl⟩
  · refine .inr ⟨?_, rfl⟩
    rw [UInt8.lt_iff_toNat_lt] at h ⊢
    omega
  · refine .inl ⟨?_, rfl⟩
    rw [UInt8.lt_iff_toNat_lt] at h ⊢
    omega
theorem cb_pre (p l m : List UInt8) : compareBytes (p ++ l) (p ++ m) = compareBytes l m := by
  induction p with
  | nil => rfl
  | cons a p ih => simp [compareBytes, ih]
theorem Dif.cb {l m : List UInt8} {c : Int} (h : Dif l m c) : compareBytes l m = c := by
  obtain ⟨p, a, l', b, m', rfl, rfl, h⟩ := h
  rw [cb_pre]
  rcases h with ⟨h, rfl⟩ | ⟨h, rfl⟩
  · simp [compareBytes, h]
  · have : ¬ a < b := by rw [UInt8.lt_iff_toNat_lt] at h ⊢; omega
    simp [compareBytes, h, this]
theorem cb_self (l : List UInt8) : compareBytes l l = 0 := by
  induction l with
  | nil => rfl
  | cons a l ih => simp [compareBytes, ih]
theorem cb_eq : ∀ (l m : List UInt8), compareBytes l m = 0 ↔ l = m
  | [], [] => by simp [compareBytes]
  | [], b :: m => by simp [compareBytes]
  | a :: l, [] => by simp [compareBytes]
  | a :: l, b :: m => by
    simp only [compareBytes]
    split
    · rename_i h
      constructor
      · intro e; cases e
      · intro e; simp at e; rw [e.1] at h; exact absurd h (by simp)
    · split
      · rename_i h
        constructor
        · intro e; cases e
        · intro e; simp at e; rw [e.1] at h; exact absurd h (by simp)
      · rename_i h1 h2
        have e : a = b := by
          apply UInt8.toNat_inj.1
          rw [UInt8.lt_iff_toNat_lt] at h1 h2
          omega
        subst e
        rw [cb_eq l m]; simp
theorem cb_less : ∀ (l m : List UInt8), Op.bytesLess l m = decide (compareBytes l m < 0)
  | [], [] => by simp [compareBytes, Op.bytesLess]
  | [], b :: m => by simp [compareBytes, Op.bytesLess]
  | a :: l, [] => by simp [compareBytes, Op.bytesLess]
  | a :: l, b :: m => by
    simp only [compareBytes, Op.bytesLess, cb_less l m]
    by_cases h : a < b
    · simp [h]
    · by_cases h2 : b < a
      · have : a ≠ b := by intro e; subst e; exact absurd h2 (by simp)
        simp [h, h2, this]
      · have e : a = b := by
          apply UInt8.toNat_inj.1
          rw [UInt8.lt_iff_toNat_lt] at h h2
          omega
        subst e
        simp
def sgn (less more : Bool) : Int := if less = true then -1 else if more = true then 1 else 0
theorem cb_tri : ∀ (l m : List UInt8), compareBytes l m = -1 ∨ compareBytes l m = 0 ∨ compareBytes l m = 1
  | [], [] => .inr (.inl rfl)
  | [], b :: m => .inl rfl
  | a :: l, [] => .inr (.inr rfl)
  | a :: l, b :: m => by
    simp only [compareBytes]
    split
    · exact .inl rfl
    · split
      · exact .inr (.inr rfl)
      · exact cb_tri l m
theorem cb_swap : ∀ (l m : List UInt8), compareBytes m l = - compareBytes l m
  | [], [] => rfl
  | [], b :: m => rfl
  | a :: l, [] => rfl
  | a :: l, b :: m => by
    simp only [compareBytes]
    by_cases h : a < b
    · have : ¬ b < a := by rw [UInt8.lt_iff_toNat_lt] at h ⊢; omega
      simp [h, this]
    · by_cases h2 : b < a
      · simp [h, h2]
      · simp [h, h2, cb_swap l m]
theorem sgn_cb (l m : List UInt8) : sgn (Op.bytesLess l m) (Op.bytesLess m l) = compareBytes l m := by
  rw [cb_less, cb_less, cb_swap l m]
  rcases cb_tri l m with e | e | e <;> rw [e] <;> rfl
/-- Numbers of so many bytes. -/
theorem fixed_dif : ∀ (k n m : Nat), n < m → m < 256 ^ k → Dif (fixed n k true) (fixed m k true) (-1)
  | 0, n, m, h, hm => by simp at hm; omega
  | k + 1, n, m, h, hm => by
    rw [fixed_snoc, fixed_snoc]
    by_cases e : n / 256 = m / 256
    · rw [e]
      refine ⟨fixed (m / 256) k true, byteAt n 0, [], byteAt m 0, [], rfl, rfl, .inl ⟨?_, rfl⟩⟩
      rw [UInt8.lt_iff_toNat_lt]
      have e1 : (byteAt n 0).toNat = n % 256 := by simp [byteAt, UInt8.toNat_ofNat']
      have e2 : (byteAt m 0).toNat = m % 256 := by simp [byteAt, UInt8.toNat_ofNat']
      omega
    · exact (fixed_dif k (n / 256) (m / 256) (by omega) (by rw [Nat.pow_succ] at hm; omega)).append _ _
theorem esc_dif : ∀ (l m : List UInt8), l ≠ m → Dif (esc l ++ [0, 0]) (esc m ++ [0, 0]) (compareBytes l m)
  | [], [], h => absurd rfl h
  | [], c :: m, _ => by
    by_cases hc : c = 0
    · subst hc
      exact ⟨[0], 0, [], 255, esc m ++ [0, 0], by simp [esc], by simp [esc], .inl ⟨by decide, rfl⟩⟩
    · refine ⟨[], 0, [0], c, esc m ++ [0, 0], by simp [esc], by simp [esc, hc], .inl ⟨?_, rfl⟩⟩
      rw [UInt8.lt_iff_toNat_lt]
      have : c.toNat ≠ 0 := fun e => hc (UInt8.toNat_inj.1 e)
      show 0 < _
      omega
  | c :: l, [], _ => by
    have := (esc_dif [] (c :: l) (by simp)).swap
    exact this
  | c :: l, d :: m, h => by
    by_cases e : c = d
    · subst e
      have ih := esc_dif l m (fun e => h (by rw [e]))
      have e2 : compareBytes (c :: l) (c :: m) = compareBytes l m := by simp [compareBytes]
      rw [e2]
      by_cases hc : c = 0
      · subst hc
        simpa [esc] using ih.pre [0, 255]
      · simpa [esc, hc] using ih.pre [c]
    · have key : ∀ (c d : UInt8) (l m : List UInt8), c < d → Dif (esc (c :: l) ++ [0, 0]) (esc (d :: m) ++ [0, 0]) (-1) := by
        intro c d l m h
        have hd : d ≠ 0 := by intro e; subst e; exact absurd h (by simp)
        by_cases hc : c = 0
        · subst hc
          exact ⟨[], 0, 255 :: (esc l ++ [0, 0]), d, esc m ++ [0, 0], by simp [esc], by simp [esc, hd], .inl ⟨h, rfl⟩⟩
        · exact ⟨[], c, esc l ++ [0, 0], d, esc m ++ [0, 0], by simp [esc, hc], by simp [esc, hd], .inl ⟨h, rfl⟩⟩
      by_cases h1 : c < d
      · have e2 : compareBytes (c :: l) (d :: m) = -1 := by simp [compareBytes, h1]
        rw [e2]; exact key c d l m h1
      · have h2 : d < c := by
          have : c.toNat ≠ d.toNat := fun e' => e (UInt8.toNat_inj.1 e')
          rw [UInt8.lt_iff_toNat_lt] at h1 ⊢
          omega
        have e2 : compareBytes (c :: l) (d :: m) = 1 := by simp [compareBytes, h1, h2]
        rw [e2]; exact (key d c m l h2).swap
/-! ### Items -/
def KIt.rank : KIt → Nat
  | .nil => 0
  | .no => 1
  | .yes => 2
  | .int _ => 3
  | .uint _ => 4
  | .text _ => 5
def KIt.cmp (x y : KIt) : Int :=
  let c := sgn (decide (x.rank < y.rank)) (decide (x.rank > y.rank))
  if c = 0 then match x, y with
    | .int a, .int b => sgn (decide (a < b)) (decide (a > b))
    | .uint a, .uint b => sgn (decide (a < b)) (decide (a > b))
    | .text a, .text b => sgn (Op.bytesLess a b) (Op.bytesLess b a)
    | _, _ => 0
  else c
def KItem.cmp (a b : KItem) : Int := if a.down ≠ b.down then sgn b.down a.down else if a.down = true then - a.x.cmp b.x else a.x.cmp b.x
def tagR (k : Nat) : UInt8 := if k = 0 then 0x10 else if k = 1 then 0x20 else if k = 2 then 0x21 else if k = 3 then 0x30 else if k = 4 then 0x40 else 0x50
theorem KIt.head (x : KIt) : ∃ r, x.enc = tagR x.rank :: r := by
  cases x <;> exact ⟨_, rfl⟩
theorem KIt.rank_lt (x : KIt) : x.rank < 6 := by cases x <;> simp [KIt.rank]
theorem tagR_lt : ∀ i, i < 6 → ∀ j, j < 6 → i < j → tagR i < tagR j := by decide
theorem KIt.cmp_ne {x y : KIt} (h : x.rank ≠ y.rank) : x.cmp y = if x.rank < y.rank then -1 else 1 := by
  unfold KIt.cmp
  by_cases h1 : x.rank < y.rank
  · simp [sgn, h1]
  · have h2 : x.rank > y.rank := by omega
    simp [sgn, h1, h2]
theorem KIt.cmp_law (x y : KIt) (hx : x.ok) (hy : y.ok) : (x = y ∧ x.cmp y = 0) ∨ (x.cmp y ≠ 0 ∧ Dif x.enc y.enc (x.cmp y)) := by
  by_cases hr : x.rank = y.rank
  rotate_left
  · right
    obtain ⟨r, e1⟩ := x.head
    obtain ⟨s, e2⟩ := y.head
    rw [KIt.cmp_ne hr, e1, e2]
    by_cases h1 : x.rank < y.rank
    · rw [if_pos h1]
      exact ⟨by decide, [], _, r, _, s, rfl, rfl, .inl ⟨tagR_lt _ x.rank_lt _ y.rank_lt h1, rfl⟩⟩
    · rw [if_neg h1]
      exact ⟨by decide, [], _, r, _, s, rfl, rfl, .inr ⟨tagR_lt _ y.rank_lt _ x.rank_lt (by omega), rfl⟩⟩
  cases x <;> cases y <;> first | exact .inl ⟨rfl, rfl⟩ | (simp [KIt.rank] at hr; done) | skip
  · rename_i a b
    simp only [KIt.ok] at hx hy
    by_cases e : a = b
    · subst e; exact .inl ⟨rfl, by simp [KIt.cmp, KIt.rank, sgn]⟩
    · right
      have hp : (2 : Nat) ^ 64 = 256 ^ 8 := by decide
      by_cases h : a < b
      · have e1 : KIt.cmp (.int a) (.int b) = -1 := by simp [KIt.cmp, KIt.rank, sgn, h]
        rw [e1]
        exact ⟨by decide, (fixed_dif 8 _ _ (by omega) (by rw [← hp]; omega)).pre [0x30]⟩
      · have e1 : KIt.cmp (.int a) (.int b) = 1 := by
          have : b < a := by omega
          simp [KIt.cmp, KIt.rank, sgn, h, this]
        rw [e1]
        exact ⟨by decide, ((fixed_dif 8 _ _ (by omega) (by rw [← hp]; omega)).pre [0x30]).swap⟩
  · rename_i a b
    simp only [KIt.ok] at hx hy
    by_cases e : a = b
    · subst e; exact .inl ⟨rfl, by simp [KIt.cmp, KIt.rank, sgn]⟩
    · right
      have hp : (2 : Nat) ^ 64 = 256 ^ 8 := by decide
      by_cases h : a < b
      · have e1 : KIt.cmp (.uint a) (.uint b) = -1 := by simp [KIt.cmp, KIt.rank, sgn, h]
        rw [e1]
        exact ⟨by decide, (fixed_dif 8 _ _ h (by rw [← hp]; omega)).pre [0x40]⟩
      · have e1 : KIt.cmp (.uint a) (.uint b) = 1 := by
          have : b < a := by omega
          simp [KIt.cmp, KIt.rank, sgn, h, this]
        rw [e1]
        exact ⟨by decide, ((fixed_dif 8 b a (by omega) (by rw [← hp]; omega)).pre [0x40]).swap⟩
  · rename_i a b
    have e1 : KIt.cmp (.text a) (.text b) = compareBytes a b := by simp [KIt.cmp, KIt.rank, sgn_cb]; simp [sgn]
    rw [e1]
    by_cases e : a = b
    · subst e; exact .inl ⟨rfl, cb_self a⟩
    · exact .inr ⟨fun h => e ((cb_eq a b).1 h), (esc_dif a b e).pre [0x50]⟩
theorem KItem.cmp_law (a b : KItem) (ha : a.x.ok) (hb : b.x.ok) : (a = b ∧ a.cmp b = 0) ∨ (a.cmp b ≠ 0 ∧ Dif a.enc b.enc (a.cmp b)) := by
  obtain ⟨x, d⟩ := a
  obtain ⟨y, e⟩ := b
  obtain ⟨c, s, hc, hc2⟩ := KIt.enc_head x
  obtain ⟨c', s', hc', hc2'⟩ := KIt.enc_head y
  have h1 := turn_head c
  have h2 := turn_head c'
  cases d <;> cases e
  · rcases KIt.cmp_law x y ha hb with ⟨e, h⟩ | h
    · exact .inl ⟨by rw [e], by simp [KItem.cmp, h]⟩
    · exact .inr (by simpa [KItem.cmp, KItem.enc] using h)
  · refine .inr ⟨by simp [KItem.cmp, sgn], [], c, s, 255 - c', turn s', by simp [KItem.enc, hc], by simp [KItem.enc, hc', turn], .inl ⟨?_, by simp [KItem.cmp, sgn]⟩⟩
    rw [UInt8.lt_iff_toNat_lt]; omega
  · refine .inr ⟨by simp [KItem.cmp, sgn], [], 255 - c, turn s, c', s', by simp [KItem.enc, hc, turn], by simp [KItem.enc, hc'], .inr ⟨?_, by simp [KItem.cmp, sgn]⟩⟩
    rw [UInt8.lt_iff_toNat_lt]; omega
  · rcases KIt.cmp_law x y ha hb with ⟨e, h⟩ | ⟨h, h'⟩
    · exact .inl ⟨by rw [e], by simp [KItem.cmp, h]⟩
    · refine .inr ⟨by simp [KItem.cmp]; omega, ?_⟩
      simpa [KItem.cmp, KItem.enc] using dif_turn h'
/-- Tuples. -/
def cmpAll : List KItem → List KItem → Int
  | a :: l, b :: m => if a.cmp b ≠ 0 then a.cmp b else cmpAll l m
  | l, m => sgn (decide (l.length < m.length)) (decide (l.length > m.length))
theorem KItem.enc_ne (a : KItem) : ∃ c r, a.enc = c :: r := by
  obtain ⟨x, d⟩ := a
  obtain ⟨c, s, hc, _⟩ := KIt.enc_head x
  cases d
  · exact ⟨c, s, by simp [KItem.enc, hc]⟩
  · exact ⟨255 - c, turn s, by simp [KItem.enc, hc, turn]⟩
theorem cmpAll_law : ∀ (l m : List KItem), (∀ a ∈ l, a.x.ok) → (∀ a ∈ m, a.x.ok) → compareBytes (encAll l) (encAll m) = cmpAll l m
  | [], [], _, _ => rfl
  | [], b :: m, _, _ => by
    obtain ⟨c, r, h⟩ := b.enc_ne
    simp [encAll, h, compareBytes, cmpAll, sgn]
  | a :: l, [], _, _ => by
    obtain ⟨c, r, h⟩ := a.enc_ne
    simp [encAll, h, compareBytes, cmpAll, sgn]
  | a :: l, b :: m, hl, hm => by
    have e1 : encAll (a :: l) = a.enc ++ encAll l := by simp [encAll]
    have e2 : encAll (b :: m) = b.enc ++ encAll m := by simp [encAll]
    rw [e1, e2]
    have ih := cmpAll_law l m (fun x hx => hl x (by simp [hx])) (fun x hx => hm x (by simp [hx]))
    rcases KItem.cmp_law a b (hl a (by simp)) (hm b (by simp)) with ⟨e, h⟩ | ⟨h, h'⟩
    · subst e
      rw [cb_pre, ih]
      simp [cmpAll, h]
    · rw [(h'.append _ _).cb]
      simp [cmpAll, h]
end Go.Proofs.YtgoaclokjenpkaaDoorS
