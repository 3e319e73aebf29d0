/- Small laws that the printed walks use. Plain theorems. -/
import Derived.Test.YtnccebppgmnmfaaSepF
set_option linter.unusedVariables false
set_option linter.unusedSimpArgs false
namespace Go.Proofs.YtnccebppgmnmfaaS
open Go.RowKit
theorem wr_i64 {x : Int} (h0 : -9223372036854775808 ≤ x) (h1 : x ≤ 9223372036854775807) : IntKind.i64.wrap x = x := IntWalk.i64_in _ ⟨h0, h1⟩
theorem wr_u64 {x : Int} (h0 : 0 ≤ x) (h1 : x ≤ 18446744073709551615) : IntKind.u64.wrap x = x := by
  simp only [IntKind.wrap, IntKind.bits, IntKind.signed]
  simp
  omega
theorem wr_u32 {x : Int} (h0 : 0 ≤ x) (h1 : x ≤ 4294967295) : IntKind.u32.wrap x = x := by
  simp only [IntKind.wrap, IntKind.bits, IntKind.signed]
  simp
  omega
theorem wr_u8 {x : Int} (h0 : 0 ≤ x) (h1 : x ≤ 255) : IntKind.u8.wrap x = x := by
  simp only [IntKind.wrap, IntKind.bits, IntKind.signed]
  simp
  omega
section
variable {P : Program} {n : Nat} {ops : Array Oper} {Q : Exit → Act → World → Prop} {G : World} {I R I0 : PH} {M M2 J : List Ent} {L : Sl} {Φ : Value → PH → List Ent → Prop} {fn : Func} {v v1 v2 v3 : Value}
variable {S : World → Prop} {T : TypeId} {x y z : Operand}
theorem gc_t {c : Operand} {x y : Code} {b : Bool} (hc : ev L c = some (.bool b)) (hb : b = true) (h : GC P n Q x L G I R M) : GC P n Q (.cond c x y) L G I R M := fun a w s => by
  subst hb; exact wp_cond_true (s.fr.val hc) (h a w s)
theorem gc_f {c : Operand} {x y : Code} {b : Bool} (hc : ev L c = some (.bool b)) (hb : b = false) (h : GC P n Q y L G I R M) : GC P n Q (.cond c x y) L G I R M := fun a w s => by
  subst hb; exact wp_cond_false (s.fr.val hc) (h a w s)
theorem Sat.part {w : World} (s : Sat G I R M w) (hp : M.Perm (M2 ++ J)) : Sat G I R M2 w := by
  obtain ⟨h, a, d1, d2, d3, e, f, g⟩ := (s.perm hp).mem
  obtain ⟨h1, h2, x, y, d, rfl⟩ := stars_append.1 a
  rw [PH.disj_union_left] at d1 d2
  exact ⟨s.os, s.tape, s.output, h1, x, d1.1, d2.1, d3, PH.inW_le (PH.le_union_left _ _) e, f, g⟩
theorem gq_part {e : Exit} (hp : M.Perm (M2 ++ J)) (h : GQ Q e n L G I R M2) : GQ Q e n L G I R M := fun a w s => h a w (s.world (s.sat.part hp))
theorem gc_part {c : Code} (hp : M.Perm (M2 ++ J)) (h : GC P n Q c L G I R M2) : GC P n Q c L G I R M := fun a w s => h a w (s.world (s.sat.part hp))
theorem gl_part {l : List Oper} (hp : M.Perm (M2 ++ J)) (h : GL P n ops Q l L G I R M2) : GL P n ops Q l L G I R M := fun a w s => h a w (s.world (s.sat.part hp))
theorem gq_M {e : Exit} (hM : M = M2) (h : GQ Q e n L G I R M2) : GQ Q e n L G I R M := hM ▸ h
theorem gc_M {c : Code} (hM : M = M2) (h : GC P n Q c L G I R M2) : GC P n Q c L G I R M := hM ▸ h
theorem gl_M {l : List Oper} (hM : M = M2) (h : GL P n ops Q l L G I R M2) : GL P n ops Q l L G I R M := hM ▸ h
theorem gc_sub {c : Code} {L' : Sl} (hL : subs L L') (h : GC P n Q c L' G I R M) : GC P n Q c L G I R M := fun a w s => h a w (s.sub hL)
/-- The end of a round. -/
theorem gq_round {α : Type} {Lf : α → Sl} {If : α → PH} {Mf : α → List Ent} {inv : α → Prop} {μ : α → Nat} {x : α} (y : α) (hi : inv y) (hμ : μ y < μ x) (hI : I = If y) (hM : M.Perm (Mf y ++ J)) (hL : subs L (Lf y)) :
    GQ (Exit.then (fun a w => ∃ y, inv y ∧ μ y < μ x ∧ St n (Lf y) G (If y) R (Mf y) a w) Q) .normal n L G I R M := fun a w s => by
  subst hI
  exact ⟨y, hi, hμ, (s.world (s.sat.part hM)).sub hL⟩
theorem perm_all : M.Perm ([] ++ M) := List.Perm.refl _
theorem perm_same : M.Perm (M ++ []) := by rw [List.append_nil]
theorem perm_one {i : Nat} {e : Ent} (h : M[i]? = some e) : M.Perm ([e] ++ M.eraseIdx i) := get_perm h
theorem perm_two {i j : Nat} {e f : Ent} (h : M[i]? = some e) (h2 : (M.eraseIdx i)[j]? = some f) : M.Perm ([e, f] ++ (M.eraseIdx i).eraseIdx j) := (get_perm h).trans ((get_perm h2).cons e)
theorem perm_three {i j k : Nat} {e f g : Ent} (h : M[i]? = some e) (h2 : (M.eraseIdx i)[j]? = some f) (h3 : ((M.eraseIdx i).eraseIdx j)[k]? = some g) : M.Perm ([e, f, g] ++ ((M.eraseIdx i).eraseIdx j).eraseIdx k) :=
  (perm_two h h2).trans (((get_perm h3).cons f).cons e)
/-- A byte of a string, by its place. -/
def at8 (l : List UInt8) (i : Int) : UInt8 := l.getD i.toNat 0
theorem y_sat {l : List UInt8} {t : TypeId} {k : IntKind} {i : Int} (ht : P.underlying t = some .string) (hx : ev L x = some (.string (bs l))) (hy : ev L y = some (.int k i))
    (h0 : 0 ≤ i) (h1 : i < l.length) : Y P (.index t x y) T L S (.int .u8 (at8 l i).toNat) :=
  y_sindex ht hx hy h0 (by
    have : i.toNat < l.length := by omega
    rw [at8, List.getD_eq_getElem?_getD, List.getElem?_eq_getElem this]; rfl)
theorem run_eqin_nn {t : TypeId} {ms : Array (String × TypeId)} {w : World} (d : Nat) (ht : P.underlying t = some (.interface ms)) : (Op.equalIn (d + 1) t .nilIface .nilIface).run P w = .ok true w := by
  simp [Op.equalIn, underlying, ht]
theorem run_eqin_vn {t u : TypeId} {ms : Array (String × TypeId)} {w : World} (d : Nat) (ht : P.underlying t = some (.interface ms)) : (Op.equalIn (d + 1) t (.iface u v) .nilIface).run P w = .ok false w := by
  simp [Op.equalIn, underlying, ht]
theorem y_eqnil {t u : TypeId} (ht : P.underlying t = some (.interface #[])) (hx : ev L x = some .nilIface) : Y P (.binOp .eql t x (.const .nilIface) u) T L S (.bool true) := fun _ _ _ _ a w f _ => by
  have h : (Op.equal t .nilIface .nilIface).run P w = .ok true w := run_eqin_nn 9999 ht
  have hc : a.eval (.const .nilIface) = .nilIface := rfl
  simp [execOp, f.val hx, hc, binOp, eqGuard, h]
theorem y_eqnil_no {t u u' : TypeId} (ht : P.underlying t = some (.interface #[])) (hx : ev L x = some (.iface u v)) : Y P (.binOp .eql t x (.const .nilIface) u') T L S (.bool false) := fun _ _ _ _ a w f _ => by
  have h : (Op.equal t (.iface u v) .nilIface).run P w = .ok false w := run_eqin_vn 9999 ht
  have hc : a.eval (.const .nilIface) = .nilIface := rfl
  simp [execOp, f.val hx, hc, binOp, eqGuard, h]
end
end Go.Proofs.YtnccebppgmnmfaaS
