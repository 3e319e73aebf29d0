/- What is owned becomes known for good; walks go on. Plain theorems. -/
import Derived.Test.YtgoaclokjenpkaaDoorSepQ
set_option linter.unusedVariables false
set_option linter.unusedSimpArgs false
namespace Go.Proofs.YtgoaclokjenpkaaDoorS
open Go.RowKit
section
variable {P : Program} {n : Nat} {ops : Array Oper} {Q : Exit → Act → World → Prop} {G : World} {I R I0 : PH} {M M2 J : List Ent} {L : Sl} {Φ : Value → PH → List Ent → Prop} {fn : Func} {v v1 v2 v3 : Value}
variable {S : World → Prop} {T : TypeId} {x y z : Operand}
theorem Sat.frz {w : World} {i e k nn : Nat} {xs : List Value} (s : Sat G I R M w) (hM : M[i]? = some (osl e k v nn xs)) :
    ∃ I' A c, I.le I' ∧ v = .slice A nn c ∧ Rsl I' k A nn xs ∧ Sat G I' R (M.eraseIdx i) w := by
  obtain ⟨kk, I', he, h1, h2, s'⟩ := s.freeze hM
  obtain ⟨A, c, hv, hR⟩ := rsl_osl (v := v) (e := e) (k := k) (nn := nn) (xs := xs) (I := I') (hl := kk) ⟨kk, .emp, he, rfl, PH.disj_emp _, (PH.union_emp _).symm⟩ h2
  exact ⟨I', A, c, h1, hv, hR, s'⟩
theorem gl_frz {l : List Oper} (i : Nat) {e k nn : Nat} {xs : List Value} (hM : M[i]? = some (osl e k v nn xs)) (h : ∀ I' A c, I.le I' → v = .slice A nn c → Rsl I' k A nn xs → GL P n ops Q l L G I' R (M.eraseIdx i)) : GL P n ops Q l L G I R M := fun a w s => by
  obtain ⟨I', A, c, h1, h2, h3, s'⟩ := s.sat.frz hM
  exact h I' A c h1 h2 h3 a w (s.world s')
theorem gc_frz {l : Code} (i : Nat) {e k nn : Nat} {xs : List Value} (hM : M[i]? = some (osl e k v nn xs)) (h : ∀ I' A c, I.le I' → v = .slice A nn c → Rsl I' k A nn xs → GC P n Q l L G I' R (M.eraseIdx i)) : GC P n Q l L G I R M := fun a w s => by
  obtain ⟨I', A, c, h1, h2, h3, s'⟩ := s.sat.frz hM
  exact h I' A c h1 h2 h3 a w (s.world s')
theorem sat_frzc {w : World} {i e b : Nat} {xs : List Value} (s : Sat G I R M w) (hM : M[i]? = some (cl b e xs)) : ∃ I' fz, I.le I' ∧ I' b = some (.cells xs.toArray e fz) ∧ Sat G I' R (M.eraseIdx i) w := by
  obtain ⟨kk, I', ⟨fz, _, rfl⟩, h1, h2, s'⟩ := s.freeze hM
  exact ⟨I', fz, h1, h2 _ _ (PH.single_at _ _), s'⟩
theorem gl_frzc {l : List Oper} (i : Nat) {e b : Nat} {xs : List Value} (hM : M[i]? = some (cl b e xs)) (h : ∀ I' fz, I.le I' → I' b = some (.cells xs.toArray e fz) → GL P n ops Q l L G I' R (M.eraseIdx i)) : GL P n ops Q l L G I R M := fun a w s => by
  obtain ⟨I', fz, h1, h2, s'⟩ := sat_frzc s.sat hM
  exact h I' fz h1 h2 a w (s.world s')
theorem rsl_known {I : PH} {b e k nn : Nat} {xs : List Value} {fz : Nat × Nat} (h : I b = some (.cells xs.toArray e fz)) (hx : xs.length = nn * k) : Rsl I k (some ⟨b, 0, none⟩) nn xs :=
  ⟨hx, fun _ => ⟨b, 0, e, fz, xs, rfl, h, fun j u hj => by rw [Nat.zero_add]; exact hj⟩⟩
/-- An entry is left alone: what is known shrinks back. -/
theorem gq_leI {e : Exit} {I' : PH} (h : I.le I') (hq : GQ Q e n L G I R M) : GQ Q e n L G I' R M := fun a w s => hq a w (s.world (s.sat.leI h))
theorem gl_drop {l : List Oper} (i : Nat) (h : GL P n ops Q l L G I R (M.eraseIdx i)) : GL P n ops Q l L G I R M := fun a w s => h a w (s.world (s.sat.drop i))
/-- A slice of strings, bytes, values: the address of an element, its value. -/
theorem Rsl.at {k nn : Nat} {A : Option Addr} {xs : List Value} (h : Rsl I k A nn xs) {i : Int} {u : Value} (h0 : 0 ≤ i) (h1 : i < nn) : ∃ b o t fz l, A = some ⟨b, o, none⟩ ∧ I b = some (.cells (List.toArray l) t fz) ∧ ∀ off u, xs[i.toNat * k + off]? = some u → l[o + i.toNat * k + off]? = some u := by
  obtain ⟨b, o, t, fz, l, a, c, d⟩ := h.pos (by omega)
  exact ⟨b, o, t, fz, l, a, c, fun off u hu => by rw [Nat.add_assoc]; exact d _ _ hu⟩
end
end Go.Proofs.YtgoaclokjenpkaaDoorS
