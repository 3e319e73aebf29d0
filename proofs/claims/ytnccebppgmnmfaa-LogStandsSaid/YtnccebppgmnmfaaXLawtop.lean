/- lawtop: from walks to given statements (no card). -/
import Derived.Test.YtnccebppgmnmfaaSepFacts
import Derived.Test.YtnccebppgmnmfaaSepQ
import Derived.Test.YtnccebppgmnmfaaSepT
import Derived.Test.YtnccebppgmnmfaaRows
import Derived.Test.YtnccebppgmnmfaaChecked
import Derived.Test.YtnccebppgmnmfaaXLoglaw
set_option linter.unusedVariables false
set_option linter.unusedSimpArgs false
set_option maxRecDepth 20000
namespace Go.Proofs.YtnccebppgmnmfaaS
open Go.RowKit Go.Proofs

open Go.ChangeShapes Go.WideShapes Go.RowKit Go.Deep Go.Joins
theorem own : ownKnob Try.prog.godebug = none := by kernel_rfl
theorem laidOut : laidOutB Try.prog = true := by kernel_rfl
theorem flat_one : ∀ l : List By, ((l.map (fun x : By => [strV x])).flatten) = l.map strV
  | [] => rfl
  | x :: l => by rw [List.map_cons, List.flatten_cons, flat_one l]; rfl
theorem open_strs {H : Type} {enc : TypeId × Value → H} {W : World} {base b0 : Nat} {sp : Nat → Bool} {held : Bool} {r : Reach} {v : Value} {d : DataW H} {p : List MemPlace}
    (hv : Value.okWide Try.prog W r b0 76 v) (h : DataW.Trod enc Try.prog W base sp held 76 v d p) : ∃ l : List By, KS (allOf W) v l ∧ l.length ≤ 9223372036854775807 := by
  obtain ⟨a0, len0, cap0, rfl⟩ := okWide_slice Try.underlying76 hv
  obtain ⟨fuel, hf⟩ := h
  rcases open_slice Try.underlying76 hf with ⟨e, _⟩ | ⟨a, len, cap, m, n, D, Pl, e, hb, hl, hm, hmm, hx, hi⟩
  · simp [Value.cells] at e
    obtain ⟨rfl, rfl, rfl⟩ := e
    exact ⟨[], ⟨none, 0, rfl, by simp, fun h => absurd h (Nat.lt_irrefl 0)⟩, by simp⟩
  · simp [Value.cells] at e
    obtain ⟨rfl, rfl, rfl⟩ := e
    have hlm : len0 ≤ m := by rw [hmm]; split <;> omega
    have hC : Try.prog.cellsOf 9 = 1 := by kernel_rfl
    obtain ⟨l, hl1, _, hl3⟩ := rows_known (fun x : By => [strV x]) 1 (fun _ => rfl) (by decide) (fun _ => True) (W := W) (a := a) (n := len0) fun i hi' => by
      obtain ⟨cs', hc, ht'⟩ := hi i (by omega)
      obtain ⟨s, e2, _⟩ := DataW.trod_string Try.underlying9 ht'
      rw [hC] at hc
      obtain ⟨_, hcl, hat⟩ := World.cells?_some hc
      refine ⟨s.data.toList, trivial, fun j u hj => ?_⟩
      have hj0 : j < 1 := (List.getElem?_eq_some_iff.1 hj).1
      have h1 := hat j hj0
      obtain rfl : j = 0 := by omega
      rw [← Go.Deep.add_add, h1, e2]
      simp at hj ⊢
      rw [← hj]
    subst hl1
    have hfl : ((l.map (fun x : By => [strV x])).flatten) = l.map strV := flat_one l
    rw [hfl] at hl3
    refine ⟨l, ⟨some a, cap0, rfl, hl3⟩, ?_⟩
    have : cap0 ≤ 2 ^ 63 - 1 := hm
    omega
theorem open_str {H : Type} {enc : TypeId × Value → H} {W : World} {base b0 : Nat} {sp : Nat → Bool} {held : Bool} {r : Reach} {v : Value} {d : DataW H} {p : List MemPlace}
    (hv : Value.okWide Try.prog W r b0 9 v) (h : DataW.Trod enc Try.prog W base sp held 9 v d p) : ∃ l : By, v = .string (bs l) := by
  obtain ⟨s, rfl, _⟩ := Go.ChangeMaps.open_string Try.underlying9 hv h
  exact ⟨s.data.toList, by simp [bs]⟩
theorem open_u8 {H : Type} {enc : TypeId × Value → H} {W : World} {base b0 : Nat} {sp : Nat → Bool} {held : Bool} {r : Reach} {v : Value} {d : DataW H} {p : List MemPlace}
    (hv : Value.okWide Try.prog W r b0 5 v) (h : DataW.Trod enc Try.prog W base sp held 5 v d p) : ∃ s : Nat, v = .int .u8 (s : Int) ∧ s < 256 := by
  obtain ⟨f0, hf0⟩ := h
  obtain ⟨n, e0, _, w0⟩ := DataW.trod_int Try.underlying5 hf0
  have w0 := bounds_u8 w0
  obtain rfl : v = .int .u8 n := by
    cases v <;> simp_all [Value.cells, Value.okWide, Cell.okWide, Cell.ok]
  exact ⟨n.toNat, by rw [show ((n.toNat : Nat) : Int) = n by omega], by omega⟩

end Go.Proofs.YtnccebppgmnmfaaS
