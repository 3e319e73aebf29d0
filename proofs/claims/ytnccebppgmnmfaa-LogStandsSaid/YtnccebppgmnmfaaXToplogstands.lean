/- LogStands: of whatever bytes what stands of a log, and the end, are the chapter's; opened, nothing but noughts is behind it. For every list of records, all bytes behind them, and every bend. -/
import Derived.Test.YtnccebppgmnmfaaSepFacts
import Derived.Test.YtnccebppgmnmfaaSepQ
import Derived.Test.YtnccebppgmnmfaaXLawtop
import Derived.Test.YtnccebppgmnmfaaXLogstands
import Derived.Test.YtnccebppgmnmfaaXCl1logstands
import Derived.Test.YtnccebppgmnmfaaXCl2logstands
set_option linter.unusedVariables false
set_option linter.unusedSimpArgs false
set_option maxRecDepth 20000
namespace Go.Proofs.YtnccebppgmnmfaaS
open Go.RowKit Go.Proofs
open Go.ChangeShapes Go.WideShapes Go.RowKit Go.Deep Go.Joins
theorem open_bend {H : Type} {enc : TypeId × Value → H} {W : World} {base b0 : Nat} {sp : Nat → Bool} {held : Bool} {r : Reach} {v : Value} {d : DataW H} {p : List MemPlace}
    (hv : Value.okWide Try.prog W r b0 89 v) (h : DataW.Trod enc Try.prog W base sp held 89 v d p) : ∃ x y : Nat, v = .agg #[.int .u8 (x : Int), .int .u8 (y : Int)] ∧ x < 256 ∧ y < 256 := by
  have hC : Try.prog.cellsOf 5 = 1 := by kernel_rfl
  have hC2 : Try.prog.cellsOf 89 = 2 := by kernel_rfl
  obtain ⟨cs, rfl, hsz⟩ : ∃ cs, v = .agg cs ∧ cs.size = Try.prog.cellsOf 89 := by
    simp only [Value.okWide, Try.underlying89] at hv
    obtain ⟨cs, h1, h2, _⟩ := hv
    exact ⟨cs, h1, h2⟩
  obtain ⟨fuel, hf⟩ := h
  obtain ⟨xs, m, _, _, hlen, hxl, hi⟩ := DataW.trod_array Try.underlying89 hf
  obtain ⟨l⟩ := cs
  match l, hsz.trans hC2, xs, hxl with
  | [c0, c1], _, [y0, y1], _ =>
    have h0 := hi 0 (by decide)
    have h1 := hi 1 (by decide)
    rw [hC] at h0 h1
    simp [Value.cells] at h0 h1
    obtain ⟨n0, e0, _, w0⟩ := DataW.trod_int Try.underlying5 h0
    obtain ⟨n1, e1, _, w1⟩ := DataW.trod_int Try.underlying5 h1
    cases e0; cases e1
    have w0 := bounds_u8 w0
    have w1 := bounds_u8 w1
    exact ⟨n0.toNat, n1.toNat, by rw [show ((n0.toNat : Nat) : Int) = n0 by omega, show ((n1.toNat : Nat) : Int) = n1 by omega], by omega, by omega⟩


namespace logStands
open Go.ChangeShapes Go.WideShapes Go.RowKit Go.Deep Go.Joins
open Go.Proofs.Ytnccebppgmnmfaa
abbrev args0 : Array Value := #[.slice none 0 0, .string ⟨#[]⟩, .agg #[.int .u8 0, .int .u8 0]]
theorem laid_met (os : Os) : laidMet Try.prog Rows.logStandsRow.laid ((World.holding Try.prog os ⟨#[], #[], []⟩).forCall (fun _ _ => 0) ⟨#[], args0, []⟩).memory := laidMet_of_run' 8 (by kernel_rfl) (by kernel_rfl)
theorem reads (os : Os) {H : Type} (enc : TypeId × Value → H) : ∃ places, DataW.whole enc Try.prog ((World.holding Try.prog os ⟨#[], #[], []⟩).forCall (fun _ _ => 0) ⟨#[], args0, []⟩).memory Try.f8.params.toList Rows.logStandsSpec.vars false args0.toList 8 = some ([.nil, .lit (.string []), .agg [.lit (.int .u8 0), .lit (.int .u8 0)]], [], places) := ⟨[], by kernel_rfl⟩
theorem contract (H : Type) (enc : TypeId × Value → H) (W : World) (base : Nat) (args : Array Value) (ds gs : List (DataW H)) (before : List MemPlace)
    (hval : ∀ (j : Nat) t v, Try.f8.params[j]? = some t → args[j]? = some v → Value.okWide Try.prog W .any base t v)
    (hW : DataW.Whole enc Try.prog Try.f8.params.toList Rows.logStandsSpec.vars false W args.toList ds gs before) (hs : W.ShapedOpen Try.prog) :
    Calls Try.prog 8 args W fun e W' => ∃ v, e = .returned v ∧ Rows.logStandsSpec.post enc Try.prog Try.f8 false true false false W args v W' := by
  have hW' := hW
  obtain ⟨p, q, hA0, hV, rfl, _, _⟩ := hW
  have hA : DataW.TrodAll enc Try.prog W 0 (fun _ => true) true Try.f8.params.toList args.toList ds p := hA0
  rw [Try.params8] at hA hval
  obtain ⟨rfl, rfl⟩ := trodVars_none hV
  obtain ⟨v0, v1, v2, d0, d1, d2, p0, p1, p2, rfl, rfl, rfl, h0, h1, h2⟩ := trodAll_three hA
  obtain ⟨l, hK, hl⟩ := open_strs (hval 0 _ v0 rfl rfl) h0
  obtain ⟨b, rfl⟩ := open_str (hval 1 _ v1 rfl rfl) h1
  obtain ⟨x, y, rfl, hx, hy⟩ := open_bend (hval 2 _ v2 rfl rfl) h2
  refine (CtrQ.calls (law_LogStands v0 l b x y hx hy hl) W hK).mono fun e W' ⟨v, he, hv, hb⟩ => ?_
  subst he; subst hv
  exact ⟨_, rfl, law_post laidOut (by kernel_rfl) rfl (tb := 4) (by kernel_rfl) Try.underlying4 rfl rfl rfl hW' hb⟩
set_option maxRecDepth 100000 in
theorem lifted (os : Os) (started : os.Started) (H : Type) (enc : TypeId × Value → H) (F : Stop.Interp) :
    ReturnsInHanded {} Try.checked os 8 .any ((OpenSpec.ofChange Rows.logStandsSpec).preRow enc Try.prog Try.f8 Rows.logStandsRow.domain false Rows.logStandsRow.laid) (((OpenSpec.ofChange Rows.logStandsSpec).at F).post enc Try.prog Try.f8 false true false false) := by
  obtain ⟨places, hx⟩ := reads os enc
  refine returnsInHanded_of_row (C := Try.checked) (s := OpenSpec.ofChange Rows.logStandsSpec) own started (by kernel_rfl) Try.func8
    (witness_row_at (enc := enc) (C := Try.checked) false (World.holding Try.prog os ⟨#[], #[], []⟩) args0 rfl (by kernel_rfl) (by kernel_rfl) (by kernel_rfl)
      (OpenSpec.preRow_of_cond 8 hx (by kernel_rfl) (fun k hk => by cases hk) (by kernel_rfl) (laid_met os))) ?_
  intro W base args ds gs before hval hW _ hcond _ _ hs _
  exact contract H enc W base args ds gs before hval hW hs
theorem closed : joinedFacts Try.pinned.checked.prog 8 Try.f8 (OpenSpec.ofChange Rows.logStandsSpec).bare Rows.logStandsRow = true := by
  unfold joinedFacts
  rw [show (Rows.logStandsRow.inPlace == Try.pinned.checked.prog.inPlace 8) = true from c1, show (Rows.logStandsRow.unfollowed == Try.pinned.checked.prog.unfollowed 8) = true from c2, show (Rows.logStandsRow.recurses == Try.pinned.checked.prog.recurses 8) = true from c3, show (Rows.logStandsRow.named == Try.pinned.checked.prog.varsNamed 8) = true from c4]
  kernel_rfl
theorem said : Rows.LogStandsSaid :=
  OpenClaim.holds_of_cond 8 Try.f8 rfl rfl rfl rfl rfl rfl rfl ⟨rfl, rfl, rfl, rfl, rfl⟩ rfl rfl rfl rfl rfl (by kernel_rfl) Try.func8 closed
    (of_decide_eq_true (by kernel_rfl)) (by unfold Func.isWrapper; first | (rw [if_pos (by decide +kernel)]; kernel_rfl) | (rw [if_neg (by decide +kernel)]; exact ⟨rfl, rfl⟩))
    (fun os started H enc _ F => by rw [OpenClaim.pre_eq_preRow]; exact lifted os started H enc F)
end logStands
end Go.Proofs.YtnccebppgmnmfaaS
namespace Go.Proofs.Ytnccebppgmnmfaa
theorem logStands_holds : Rows.LogStandsSaid := Go.Proofs.YtnccebppgmnmfaaS.logStands.said
end Go.Proofs.Ytnccebppgmnmfaa
namespace Go.Proofs.YtnccebppgmnmfaaS

end Go.Proofs.YtnccebppgmnmfaaS
