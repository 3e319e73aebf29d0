/- KeysOrder: bytes are in order just as their tuples. For every two slices of items. -/
import Derived.Test.YtgoaclokjenpkaaDoorSepFacts
import Derived.Test.YtgoaclokjenpkaaDoorSepQ
import Derived.Test.YtgoaclokjenpkaaDoorXKeystop
import Derived.Test.YtgoaclokjenpkaaDoorXKeysorderlaw
set_option linter.unusedVariables false
set_option linter.unusedSimpArgs false
set_option maxRecDepth 20000
namespace Go.Proofs.YtgoaclokjenpkaaDoorS
open Go.RowKit Go.Proofs
open Go.ChangeShapes Go.WideShapes Go.RowKit Go.Deep Go.Joins
open Go.Proofs.YtgoaclokjenpkaaDoor

namespace keysOrder
abbrev args0 : Array Value := #[.slice none 0 0, .slice none 0 0]
theorem laid_met (os : Os) : laidMet Tryd.prog Rows.keysOrderRow.laid ((laidWorld os).forCall (fun _ _ => 0) ⟨#[], args0, []⟩).memory := laidMet_of_run' 8 (by kernel_rfl) (by kernel_rfl)
theorem reads (os : Os) {H : Type} (enc : TypeId × Value → H) : ∃ places, DataW.whole enc Tryd.prog ((laidWorld os).forCall (fun _ _ => 0) ⟨#[], args0, []⟩).memory Tryd.f4.params.toList Rows.keysOrderSpec.vars false args0.toList 8 = some ([.nil, .nil], [], places) := ⟨[], by kernel_rfl⟩
theorem contract (H : Type) (enc : TypeId × Value → H) (W : World) (base : Nat) (args : Array Value) (ds gs : List (DataW H)) (before : List MemPlace)
    (hval : ∀ (j : Nat) t v, Tryd.f4.params[j]? = some t → args[j]? = some v → Value.okWide Tryd.prog W .any base t v)
    (hW : DataW.Whole enc Tryd.prog Tryd.f4.params.toList Rows.keysOrderSpec.vars false W args.toList ds gs before) (hc : True) (hs : W.ShapedOpen Tryd.prog) :
    Calls Tryd.prog 4 args W fun e W' => ∃ v, e = .returned v ∧ Rows.keysOrderSpec.post enc Tryd.prog Tryd.f4 false true false false W args v W' := by
  have hW' := hW
  obtain ⟨p, q, hA0, hV, rfl, _, _⟩ := hW
  have hA : DataW.TrodAll enc Tryd.prog W 0 (fun _ => true) true Tryd.f4.params.toList args.toList ds p := hA0
  rw [Tryd.params4] at hA hval
  obtain ⟨v0, v1, d0, d1, p0, p1, rfl, rfl, rfl, h0, h1⟩ := trodAll_two hA
  obtain ⟨A, ca, a, rfl, hoa, hla, hRa⟩ := open_items (hval 0 _ v0 rfl rfl) h0
  obtain ⟨B, cb, b, rfl, hob, hlb, hRb⟩ := open_items (hval 1 _ v1 rfl rfl) h1
  obtain ⟨rfl, rfl⟩ := trodVars_none hV
  refine (CtrQ.calls (law_KeysOrder A B ca cb a b hla hlb hoa hob) W ⟨kmax_of hs, hRa, hRb⟩).mono fun e W' ⟨v, he, hv, hb⟩ => ?_
  subst he; subst hv
  exact ⟨_, rfl, law_post laidOut (by kernel_rfl) rfl (tb := 4) (by kernel_rfl) Tryd.underlying4 rfl rfl rfl hW' hb⟩
set_option maxRecDepth 100000 in
theorem lifted (os : Os) (started : os.Started) (H : Type) (enc : TypeId × Value → H) (F : Stop.Interp) :
    ReturnsInHanded {} Tryd.checked os 4 .any ((OpenSpec.ofChange Rows.keysOrderSpec).preRow enc Tryd.prog Tryd.f4 Rows.keysOrderRow.domain false Rows.keysOrderRow.laid) (((OpenSpec.ofChange Rows.keysOrderSpec).at F).post enc Tryd.prog Tryd.f4 false true false false) := by
  obtain ⟨places, hx⟩ := reads os enc
  refine returnsInHanded_of_row (C := Tryd.checked) (s := OpenSpec.ofChange Rows.keysOrderSpec) own started (by kernel_rfl) Tryd.func4
    (witness_row_at (enc := enc) (C := Tryd.checked) false (laidWorld os) args0 rfl (by kernel_rfl) (by kernel_rfl) (by kernel_rfl)
      (OpenSpec.preRow_of_cond 8 hx (by kernel_rfl) (fun k hk => by cases hk) (by kernel_rfl) (laid_met os))) ?_
  intro W base args ds gs before hval hW _ hcond _ _ hs _
  exact contract H enc W base args ds gs before hval hW trivial hs
theorem said : Rows.KeysOrderSaid :=
  OpenClaim.holds_of_cond 4 Tryd.f4 rfl rfl rfl rfl rfl rfl rfl ⟨rfl, rfl, rfl, rfl, rfl⟩ rfl rfl rfl rfl rfl (by kernel_rfl) Tryd.func4 (by kernel_rfl)
    (of_decide_eq_true (by kernel_rfl)) (by unfold Func.isWrapper; first | (rw [if_pos (by decide +kernel)]; kernel_rfl) | (rw [if_neg (by decide +kernel)]; exact ⟨rfl, rfl⟩))
    (fun os started H enc _ F => by rw [OpenClaim.pre_eq_preRow]; exact lifted os started H enc F)
theorem plain (f : FuncId) (fn : Func) (hf : Tryd.pinned.checked.prog.funcNamed "isogloss/isoglosslaw03.KeysOrder" = some f) (hfn : Tryd.pinned.checked.prog.funcs[f]? = some fn) :
    true = Tryd.pinned.checked.prog.looks [] ∧ ∀ (j : Nat) t, fn.params[j]? = some t → Tryd.pinned.checked.prog.wantsStandIn t = false := by
  obtain rfl : f = 4 := Option.some.inj ((show Tryd.prog.funcNamed "isogloss/isoglosslaw03.KeysOrder" = some 4 by kernel_rfl).symm.trans hf) |>.symm
  obtain rfl : fn = Tryd.f4 := (Option.some.inj (Tryd.func4.symm.trans hfn)).symm
  refine ⟨by kernel_rfl, fun j t ht => ?_⟩
  rw [Tryd.params4] at ht
  have hm := Array.mem_of_getElem? ht
  have ha : ([27, 27] : List Nat).all (fun t => !Tryd.prog.wantsStandIn t) = true := by kernel_rfl
  have := List.all_eq_true.1 ha t (by simpa using hm)
  exact (by simpa using this : Tryd.prog.wantsStandIn t = false)
/-- ████ THE CARD ████ -/
theorem card : Rows.KeysOrderCardSaid :=
  Claim7.holds_tied_plain_at .later [] _ _ _ _ said (fun _ h => by cases h) (by kernel_rfl) (fun _ h => by cases h) keysOrder_row_tie rfl ⟨rfl, rfl⟩ (by kernel_rfl) rfl plain (by kernel_rfl)
end keysOrder
end Go.Proofs.YtgoaclokjenpkaaDoorS
namespace Go.Proofs.YtgoaclokjenpkaaDoor
theorem keysOrder_holds : Rows.KeysOrderCardSaid := Go.Proofs.YtgoaclokjenpkaaDoorS.keysOrder.card
end Go.Proofs.YtgoaclokjenpkaaDoor
namespace Go.Proofs.YtgoaclokjenpkaaDoorS

end Go.Proofs.YtgoaclokjenpkaaDoorS
