/- More rules: least and greatest, pointers held against nil, entries opened at an end. Plain theorems. -/
import Derived.Test.YtnccebppgmnmfaaSepK
import Derived.Lib.MinMax
set_option linter.unusedVariables false
set_option linter.unusedSimpArgs false
namespace Go.Proofs.YtnccebppgmnmfaaS
open Go.RowKit
section
variable {P : Program} {n : Nat} {ops : Array Oper} {Q : Exit → Act → World → Prop} {G : World} {I R I0 : PH} {M M2 J : List Ent} {L : Sl} {v : Value}
variable {S : World → Prop} {T : TypeId} {x y z : Operand}
theorem gq_unhid {α : Type} {N : α → List Ent} {e : Exit} (i : Nat) (hM : M[i]? = some (Hid N)) (h : ∀ x, GQ Q e n L G I R (M.eraseIdx i ++ N x)) : GQ Q e n L G I R M := fun a w s => by
  obtain ⟨x, s'⟩ := s.sat.unhid hM
  exact h x a w (s.world s')
theorem gc_drop {l : Code} (i : Nat) (h : GC P n Q l L G I R (M.eraseIdx i)) : GC P n Q l L G I R M := fun a w s => h a w (s.world (s.sat.drop i))
theorem y_min {k : IntKind} {p q r : Int} {ts : Array TypeId} (hx : ev L x = some (.int k p)) (hy : ev L y = some (.int k q)) (hr : min p q = r) : Y P (.call { callee := .builtin .min, args := [x, y].toArray, argTypes := ts }) T L S (.int k r) :=
  fun _ _ _ _ a w f _ => by subst hr; simp [execOp, resolve, invoke, builtin, f.val hx, f.val hy, Lib.run_min_ints]
theorem y_max {k : IntKind} {p q r : Int} {ts : Array TypeId} (hx : ev L x = some (.int k p)) (hy : ev L y = some (.int k q)) (hr : max p q = r) : Y P (.call { callee := .builtin .max, args := [x, y].toArray, argTypes := ts }) T L S (.int k r) :=
  fun _ _ _ _ a w f _ => by subst hr; simp [execOp, resolve, invoke, builtin, f.val hx, f.val hy, Lib.run_max_ints]
/-- What an entry says of itself. -/
theorem gl_says {l : List Oper} {p : Prop} (i : Nat) {e : Ent} (hM : M[i]? = some e) (hp : ∀ k, e k → p) (h : p → GL P n ops Q l L G I R M) : GL P n ops Q l L G I R M := fun a w s => h (s.sat.says hM hp) a w s
theorem gc_says {l : Code} {p : Prop} (i : Nat) {e : Ent} (hM : M[i]? = some e) (hp : ∀ k, e k → p) (h : p → GC P n Q l L G I R M) : GC P n Q l L G I R M := fun a w s => h (s.sat.says hM hp) a w s
theorem gq_says {ex : Exit} {p : Prop} (i : Nat) {e : Ent} (hM : M[i]? = some e) (hp : ∀ k, e k → p) (h : p → GQ Q ex n L G I R M) : GQ Q ex n L G I R M := fun a w s => h (s.sat.says hM hp) a w s
theorem osl_one {e k nn : Nat} {xs : List Value} : ∀ h, osl e k v nn xs h → one1 v = true := fun h a => by
  obtain ⟨b, c, rfl⟩ := osl_len a; rfl
theorem gq_nilslice {ex : Exit} (e k : Nat) (h : GQ Q ex n L G I R (M ++ [osl e k (.slice none 0 0) 0 []])) : GQ Q ex n L G I R M := fun a w s => h a w (s.world (s.sat.nil e k))
theorem y_pneqnil_f {t e u : TypeId} (ht : P.underlying t = some (.pointer e)) (hx : ev L x = some (.pointer none)) : Y P (.binOp .neq t x (.const (.pointer none)) u) T L S (.bool false) := fun _ _ _ _ a w f _ => by
  have h : ∀ d : Nat, (Op.equalIn (d + 1) t (.pointer none) (.pointer none)).run P w = .ok true w := fun d => by simp [Op.equalIn, underlying, ht]
  have h2 : (Op.equal t (.pointer none) (.pointer none)).run P w = .ok true w := h 9999
  have hc : a.eval (.const (.pointer none)) = .pointer none := rfl
  simp [execOp, f.val hx, hc, binOp, eqGuard, h2]
theorem y_pneqnil_t {t e u : TypeId} {p : Addr} (ht : P.underlying t = some (.pointer e)) (hx : ev L x = some (.pointer (some p))) : Y P (.binOp .neq t x (.const (.pointer none)) u) T L S (.bool true) := fun _ _ _ _ a w f _ => by
  have h : ∀ d : Nat, (Op.equalIn (d + 1) t (.pointer (some p)) (.pointer none)).run P w = .ok false w := fun d => by simp [Op.equalIn, underlying, ht]
  have h2 : (Op.equal t (.pointer (some p)) (.pointer none)).run P w = .ok false w := h 9999
  have hc : a.eval (.const (.pointer none)) = .pointer none := rfl
  simp [execOp, f.val hx, hc, binOp, eqGuard, h2]
/-- What an own slice is: nothing, or a row. -/
theorem Sat.parts {w : World} {i e k nn : Nat} {xs : List Value} (s : Sat G I R M w) (hM : M[i]? = some (osl e k v nn xs)) :
    (v = .slice none 0 0 ∧ nn = 0 ∧ xs = [] ∧ Sat G I R (M.eraseIdx i) w) ∨ ∃ g cap junk, v = .slice (some ⟨g, 0, none⟩) nn cap ∧ xs.length = nn * k ∧ (xs ++ junk).length = cap * k ∧ nn ≤ cap ∧ Sat G I R (M.set i (blk g (.cells (xs ++ junk).toArray e (0, 0)))) w := by
  obtain ⟨k', ⟨hl, h⟩, hk⟩ := s.open hM
  rcases h with ⟨h1, h2, h3⟩ | ⟨g, cap, cur, hv, h1, h2, h3, h4, h5⟩
  · refine .inl ⟨h1, h2, ?_, s.drop i⟩
    subst h2
    exact List.eq_nil_of_length_eq_zero (by simpa using hl)
  · refine .inr ⟨g, cap, cur.toList.drop (nn * k), hv, hl, ?_, h1, hk _ ?_⟩
    · rw [← h4, List.take_append_drop]; simpa using h3
    · show k' = _
      rw [h5, ← h4, List.take_append_drop, Array.toArray_toList]
theorem gl_parts {l : List Oper} (i : Nat) {e k nn : Nat} {xs : List Value} (hM : M[i]? = some (osl e k v nn xs)) (h0 : v = .slice none 0 0 → nn = 0 → xs = [] → GL P n ops Q l L G I R (M.eraseIdx i))
    (h1 : ∀ g cap junk, v = .slice (some ⟨g, 0, none⟩) nn cap → xs.length = nn * k → (xs ++ junk).length = cap * k → nn ≤ cap → GL P n ops Q l L G I R (M.set i (blk g (.cells (xs ++ junk).toArray e (0, 0))))) : GL P n ops Q l L G I R M := fun a w s => by
  rcases s.sat.parts hM with ⟨a1, a2, a3, s'⟩ | ⟨g, cap, junk, a1, a2, a3, a4, s'⟩
  · exact h0 a1 a2 a3 a w (s.world s')
  · exact h1 g cap junk a1 a2 a3 a4 a w (s.world s')
/-- A row as an own slice again. -/
theorem Sat.shut {w : World} {i e k nn g cap : Nat} {xs junk : List Value} (s : Sat G I R M w) (hM : M[i]? = some (blk g (.cells (xs ++ junk).toArray e (0, 0)))) (hl : xs.length = nn * k) (hc : (xs ++ junk).length = cap * k) (hn : nn ≤ cap) (hm : cap ≤ maxLen) :
    Sat G I R (M.set i (osl e k (.slice (some ⟨g, 0, none⟩) nn cap) nn xs)) w :=
  s.weaken hM (oslnew hl hn hm (by simpa using hc) (by rw [← hl]; simp))
end
end Go.Proofs.YtnccebppgmnmfaaS
