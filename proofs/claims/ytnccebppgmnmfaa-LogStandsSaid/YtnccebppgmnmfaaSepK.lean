/- Pointers that are compared and turned, strings out of rows: what strings.Builder does. Plain theorems. -/
import Derived.Test.YtnccebppgmnmfaaSepJ
import Derived.Lib.Builder
import Derived.Lib.UnsafeStr
set_option linter.unusedVariables false
set_option linter.unusedSimpArgs false
namespace Go.Proofs.YtnccebppgmnmfaaS
open Go.RowKit
section
variable {P : Program} {n : Nat} {ops : Array Oper} {Q : Exit → Act → World → Prop} {G : World} {I R I0 : PH} {M M2 J : List Ent} {L : Sl} {v : Value}
variable {S : World → Prop} {T : TypeId} {x y z : Operand}
theorem y_peqnil_t {t e u : TypeId} (ht : P.underlying t = some (.pointer e)) (hx : ev L x = some (.pointer none)) : Y P (.binOp .eql t x (.const (.pointer none)) u) T L S (.bool true) := fun _ _ _ _ a w f _ => by
  have h : ∀ d : Nat, (Op.equalIn (d + 1) t (.pointer none) (.pointer none)).run P w = .ok true w := fun d => by simp [Op.equalIn, underlying, ht]
  have h2 : (Op.equal t (.pointer none) (.pointer none)).run P w = .ok true w := h 9999
  have hc : a.eval (.const (.pointer none)) = .pointer none := rfl
  simp [execOp, f.val hx, hc, binOp, eqGuard, h2]
theorem y_peqnil_f {t e u : TypeId} {p : Addr} (ht : P.underlying t = some (.pointer e)) (hx : ev L x = some (.pointer (some p))) : Y P (.binOp .eql t x (.const (.pointer none)) u) T L S (.bool false) := fun _ _ _ _ a w f _ => by
  have h : ∀ d : Nat, (Op.equalIn (d + 1) t (.pointer (some p)) (.pointer none)).run P w = .ok false w := fun d => by simp [Op.equalIn, underlying, ht]
  have h2 : (Op.equal t (.pointer (some p)) (.pointer none)).run P w = .ok false w := h 9999
  have hc : a.eval (.const (.pointer none)) = .pointer none := rfl
  simp [execOp, f.val hx, hc, binOp, eqGuard, h2]
theorem y_pneq_same {t e u k : Nat} {p : Addr} (ht : P.underlying t = some (.pointer e)) (hz : szf P e = some k) (hx : ev L x = some (.pointer (some p))) (hy : ev L y = some (.pointer (some p))) : Y P (.binOp .neq t x y u) T L S (.bool false) := fun _ _ _ _ a w f _ => by
  obtain ⟨i, hi, _⟩ := info_of_sz hz
  have h := Lib.run_neq_ptr_same (P := P) w p ht hi
  simp only [execOp, f.val hx, f.val hy]
  simp [eqGuard, h]
end
end Go.Proofs.YtnccebppgmnmfaaS
