/- LogWrites: whatever is appended to a log, each answer, the end, all bytes, and what is opened again, are the chapter's. For every number and every list of records. -/
import Derived.Test.YtnccebppgmnmfaaSepFacts
import Derived.Test.YtnccebppgmnmfaaSepQ
import Derived.Test.YtnccebppgmnmfaaXLawtop
import Derived.Test.YtnccebppgmnmfaaXCl1logwrites
import Derived.Test.YtnccebppgmnmfaaXCl2logwrites
set_option linter.unusedVariables false
set_option linter.unusedSimpArgs false
set_option maxRecDepth 20000
namespace Go.Proofs.YtnccebppgmnmfaaS
open Go.RowKit Go.Proofs

namespace logWrites
open Go.ChangeShapes Go.WideShapes Go.RowKit Go.Deep Go.Joins
open Go.Proofs.Ytnccebppgmnmfaa
abbrev args0 : Array Value := #[.int .u8 0, .slice none 0 0]
theorem laid_met (os : Os) : laidMet Try.prog Rows.logWritesRow.laid ((World.holding Try.prog os ⟨#[], #[], []⟩).forCall (fun _ _ => 0) ⟨#[], args0, []⟩).memory := laidMet_of_run' 8 (by kernel_rfl) (by kernel_rfl)
theorem reads (os : Os) {H : Type} (enc : TypeId × Value → H) : ∃ places, DataW.whole enc Try.prog ((World.holding Try.prog os ⟨#[], #[], []⟩).forCall (fun _ _ => 0) ⟨#[], args0, []⟩).memory Try.f7.params.toList Rows.logWritesSpec.vars false args0.toList 8 = some ([.lit (.int .u8 0), .nil], [], places) := ⟨[], by kernel_rfl⟩
theorem contract (H : Type) (enc : TypeId × Value → H) (W : World) (base : Nat) (args : Array Value) (ds gs : List (DataW H)) (before : List MemPlace)
    (hval : ∀ (j : Nat) t v, Try.f7.params[j]? = some t → args[j]? = some v → Value.okWide Try.prog W .any base t v)
    (hW : DataW.Whole enc Try.prog Try.f7.params.toList Rows.logWritesSpec.vars false W args.toList ds gs before) (hs : W.ShapedOpen Try.prog) :
    Calls Try.prog 7 args W fun e W' => ∃ v, e = .returned v ∧ Rows.logWritesSpec.post enc Try.prog Try.f7 false true false false W args v W' := by
  have hW' := hW
  obtain ⟨p, q, hA0, hV, rfl, _, _⟩ := hW
  have hA : DataW.TrodAll enc Try.prog W 0 (fun _ => true) true Try.f7.params.toList args.toList ds p := hA0
  rw [Try.params7] at hA hval
  obtain ⟨rfl, rfl⟩ := trodVars_none hV
  obtain ⟨v0, v1, d0, d1, p0, p1, rfl, rfl, rfl, h0, h1⟩ := trodAll_two hA
  obtain ⟨s, rfl, hs8⟩ := open_u8 (hval 0 _ v0 rfl rfl) h0
  obtain ⟨l, hK, hl⟩ := open_strs (hval 1 _ v1 rfl rfl) h1
  refine (CtrQ.calls (law_LogWrites s v1 l hs8 hl) W hK).mono fun e W' ⟨v, he, hv, hb⟩ => ?_
  subst he; subst hv
  exact ⟨_, rfl, law_post laidOut (by kernel_rfl) rfl (tb := 4) (by kernel_rfl) Try.underlying4 rfl rfl rfl hW' hb⟩
set_option maxRecDepth 100000 in
theorem lifted (os : Os) (started : os.Started) (H : Type) (enc : TypeId × Value → H) (F : Stop.Interp) :
    ReturnsInHanded {} Try.checked os 7 .any ((OpenSpec.ofChange Rows.logWritesSpec).preRow enc Try.prog Try.f7 Rows.logWritesRow.domain false Rows.logWritesRow.laid) (((OpenSpec.ofChange Rows.logWritesSpec).at F).post enc Try.prog Try.f7 false true false false) := by
  obtain ⟨places, hx⟩ := reads os enc
  refine returnsInHanded_of_row (C := Try.checked) (s := OpenSpec.ofChange Rows.logWritesSpec) own started (by kernel_rfl) Try.func7
    (witness_row_at (enc := enc) (C := Try.checked) false (World.holding Try.prog os ⟨#[], #[], []⟩) args0 rfl (by kernel_rfl) (by kernel_rfl) (by kernel_rfl)
      (OpenSpec.preRow_of_cond 8 hx (by kernel_rfl) (fun k hk => by cases hk) (by kernel_rfl) (laid_met os))) ?_
  intro W base args ds gs before hval hW _ hcond _ _ hs _
  exact contract H enc W base args ds gs before hval hW hs
theorem closed : joinedFacts Try.pinned.checked.prog 7 Try.f7 (OpenSpec.ofChange Rows.logWritesSpec).bare Rows.logWritesRow = true := by
  unfold joinedFacts
  rw [show (Rows.logWritesRow.inPlace == Try.pinned.checked.prog.inPlace 7) = true from c1, show (Rows.logWritesRow.unfollowed == Try.pinned.checked.prog.unfollowed 7) = true from c2, show (Rows.logWritesRow.recurses == Try.pinned.checked.prog.recurses 7) = true from c3, show (Rows.logWritesRow.named == Try.pinned.checked.prog.varsNamed 7) = true from c4]
  kernel_rfl
theorem said : Rows.LogWritesSaid :=
  OpenClaim.holds_of_cond 7 Try.f7 rfl rfl rfl rfl rfl rfl rfl ⟨rfl, rfl, rfl, rfl, rfl⟩ rfl rfl rfl rfl rfl (by kernel_rfl) Try.func7 closed
    (of_decide_eq_true (by kernel_rfl)) (by unfold Func.isWrapper; first | (rw [if_pos (by decide +kernel)]; kernel_rfl) | (rw [if_neg (by decide +kernel)]; exact ⟨rfl, rfl⟩))
    (fun os started H enc _ F => by rw [OpenClaim.pre_eq_preRow]; exact lifted os started H enc F)
end logWrites
end Go.Proofs.YtnccebppgmnmfaaS
namespace Go.Proofs.Ytnccebppgmnmfaa
theorem logWrites_holds : Rows.LogWritesSaid := Go.Proofs.YtnccebppgmnmfaaS.logWrites.said
end Go.Proofs.Ytnccebppgmnmfaa
namespace Go.Proofs.YtnccebppgmnmfaaS

end Go.Proofs.YtnccebppgmnmfaaS
