/- Entries that hide what they are made of: opened and shut. Plain theorems. -/
import Derived.Test.YtnccebppgmnmfaaSepI
set_option linter.unusedVariables false
set_option linter.unusedSimpArgs false
namespace Go.Proofs.YtnccebppgmnmfaaS
section
variable {P : Program} {n : Nat} {ops : Array Oper} {Q : Exit → Act → World → Prop} {G : World} {I R I0 : PH} {M M2 J : List Ent} {L : Sl} {v : Value}
/-- An entry made of others, of which some things are not told. -/
def Hid {α : Type} (N : α → List Ent) : Ent := fun h => ∃ x, stars (N x) h
theorem Sat.unhid {α : Type} {N : α → List Ent} {w : World} {i : Nat} (s : Sat G I R M w) (h : M[i]? = some (Hid N)) : ∃ x, Sat G I R (M.eraseIdx i ++ N x) w := by
  obtain ⟨_, ⟨h1, h2, ⟨x, hx⟩, y, d, rfl⟩, d1, d2, d3, a, c, f⟩ := (s.perm (get_perm h)).mem
  refine ⟨x, s.os, s.tape, s.output, h2.union h1, stars_append.2 ⟨h2, h1, y, hx, PH.disj_comm d, rfl⟩, ?_⟩
  rw [← PH.union_comm d]
  exact ⟨d1, d2, d3, a, c, f⟩
theorem gl_unhid {α : Type} {N : α → List Ent} {l : List Oper} (i : Nat) (hM : M[i]? = some (Hid N)) (h : ∀ x, GL P n ops Q l L G I R (M.eraseIdx i ++ N x)) : GL P n ops Q l L G I R M := fun a w s => by
  obtain ⟨x, s'⟩ := s.sat.unhid hM
  exact h x a w (s.world s')
theorem gc_unhid {α : Type} {N : α → List Ent} {l : Code} (i : Nat) (hM : M[i]? = some (Hid N)) (h : ∀ x, GC P n Q l L G I R (M.eraseIdx i ++ N x)) : GC P n Q l L G I R M := fun a w s => by
  obtain ⟨x, s'⟩ := s.sat.unhid hM
  exact h x a w (s.world s')
theorem Sat.hid {α : Type} {N : α → List Ent} {w : World} (x : α) (s : Sat G I R M w) (hp : M.Perm (N x ++ J)) : Sat G I R (Hid N :: J) w := by
  obtain ⟨_, hh, d1, d2, d3, a, c, f⟩ := (s.perm hp).mem
  obtain ⟨h1, h2, y, z, d, rfl⟩ := stars_append.1 hh
  exact ⟨s.os, s.tape, s.output, h1.union h2, ⟨h1, h2, ⟨x, y⟩, z, d, rfl⟩, d1, d2, d3, a, c, f⟩
theorem gl_hid {α : Type} {N : α → List Ent} {l : List Oper} (x : α) (hp : M.Perm (N x ++ J)) (h : GL P n ops Q l L G I R (Hid N :: J)) : GL P n ops Q l L G I R M := fun a w s => h a w (s.world (s.sat.hid x hp))
theorem gc_hid {α : Type} {N : α → List Ent} {l : Code} (x : α) (hp : M.Perm (N x ++ J)) (h : GC P n Q l L G I R (Hid N :: J)) : GC P n Q l L G I R M := fun a w s => h a w (s.world (s.sat.hid x hp))
theorem gq_hid {α : Type} {N : α → List Ent} {e : Exit} (x : α) (hp : M.Perm (N x ++ J)) (h : GQ Q e n L G I R (Hid N :: J)) : GQ Q e n L G I R M := fun a w s => h a w (s.world (s.sat.hid x hp))
end
end Go.Proofs.YtnccebppgmnmfaaS
