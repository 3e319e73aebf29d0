/- KeysFirst: no item has bytes that begin with those of another item. For every two items. -/
import Derived.Test.YtgoaclokjenpkaaDoorSepFacts
import Derived.Test.YtgoaclokjenpkaaDoorSepQ
import Derived.Test.YtgoaclokjenpkaaDoorXKeystop
set_option linter.unusedVariables false
set_option linter.unusedSimpArgs false
set_option maxRecDepth 20000
namespace Go.Proofs.YtgoaclokjenpkaaDoorS
open Go.RowKit Go.Proofs
open Go.ChangeShapes Go.WideShapes Go.RowKit Go.Deep Go.Joins
open Go.Proofs.YtgoaclokjenpkaaDoor

namespace keysFirst
abbrev args0 : Array Value := #[.agg #[.int .u8 0, .int .i64 0, .int .u64 0, .string ⟨#[]⟩, .bool false], .agg #[.int .u8 0, .int .i64 0, .int .u64 0, .string ⟨#[]⟩, .bool false]]
theorem laid_met (os : Os) : laidMet Tryd.prog Rows.keysFirstRow.laid ((laidWorld os).forCall (fun _ _ => 0) ⟨#[], args0, []⟩).memory := laidMet_of_run' 8 (by kernel_rfl) (by kernel_rfl)
theorem reads (os : Os) {H : Type} (enc : TypeId × Value → H) : ∃ places, DataW.whole enc Tryd.prog ((laidWorld os).forCall (fun _ _ => 0) ⟨#[], args0, []⟩).memory Tryd.f3.params.toList Rows.keysFirstSpec.vars false args0.toList 8 = some ([.agg [.lit (.int .u8 0), .lit (.int .i64 0), .lit (.int .u64 0), .lit (.string []), .lit (.bool false)], .agg [.lit (.int .u8 0), .lit (.int .i64 0), .lit (.int .u64 0), .lit (.string []), .lit (.bool false)]], [], places) := ⟨[], by kernel_rfl⟩
theorem contract (H : Type) (enc : TypeId × Value → H) (W : World) (base : Nat) (args : Array Value) (ds gs : List (DataW H)) (before : List MemPlace)
    (hval : ∀ (j : Nat) t v, Tryd.f3.params[j]? = some t → args[j]? = some v → Value.okWide Tryd.prog W .any base t v)
    (hW : DataW.Whole enc Tryd.prog Tryd.f3.params.toList Rows.keysFirstSpec.vars false W args.toList ds gs before) (hc : True) (hs : W.ShapedOpen Tryd.prog) :
    Calls Tryd.prog 3 args W fun e W' => ∃ v, e = .returned v ∧ Rows.keysFirstSpec.post enc Tryd.prog Tryd.f3 false true false false W args v W' := by
  have hW' := hW
  obtain ⟨p, q, hA0, hV, rfl, _, _⟩ := hW
  have hA : DataW.TrodAll enc Tryd.prog W 0 (fun _ => true) true Tryd.f3.params.toList args.toList ds p := hA0
  rw [Tryd.params3] at hA hval
  obtain ⟨v0, v1, d0, d1, p0, p1, rfl, rfl, rfl, h0, h1⟩ := trodAll_two hA
  obtain ⟨x, rfl, hx⟩ := open_item (hval 0 _ v0 rfl rfl) h0
  obtain ⟨y, rfl, hy⟩ := open_item (hval 1 _ v1 rfl rfl) h1
  obtain ⟨rfl, rfl⟩ := trodVars_none hV
  refine (CtrQ.calls (law_KeysFirst x y hx hy) W (kmax_of hs)).mono fun e W' ⟨v, he, hv, hb⟩ => ?_
  subst he; subst hv
  exact ⟨_, rfl, law_post laidOut (by kernel_rfl) rfl (tb := 4) (by kernel_rfl) Tryd.underlying4 rfl rfl rfl hW' hb⟩
set_option maxRecDepth 100000 in
theorem lifted (os : Os) (started : os.Started) (H : Type) (enc : TypeId × Value → H) (F : Stop.Interp) :
    ReturnsInHanded {} Tryd.checked os 3 .any ((OpenSpec.ofChange Rows.keysFirstSpec).preRow enc Tryd.prog Tryd.f3 Rows.keysFirstRow.domain false Rows.keysFirstRow.laid) (((OpenSpec.ofChange Rows.keysFirstSpec).at F).post enc Tryd.prog Tryd.f3 false true false false) := by
  obtain ⟨places, hx⟩ := reads os enc
  refine returnsInHanded_of_row (C := Tryd.checked) (s := OpenSpec.ofChange Rows.keysFirstSpec) own started (by kernel_rfl) Tryd.func3
    (witness_row_at (enc := enc) (C := Tryd.checked) false (laidWorld os) args0 rfl (by kernel_rfl) (by kernel_rfl) (by kernel_rfl)
      (OpenSpec.preRow_of_cond 8 hx (by kernel_rfl) (fun k hk => by cases hk) (by kernel_rfl) (laid_met os))) ?_
  intro W base args ds gs before hval hW _ hcond _ _ hs _
  exact contract H enc W base args ds gs before hval hW trivial hs
theorem said : Rows.KeysFirstSaid :=
  OpenClaim.holds_of_cond 3 Tryd.f3 rfl rfl rfl rfl rfl rfl rfl ⟨rfl, rfl, rfl, rfl, rfl⟩ rfl rfl rfl rfl rfl (by kernel_rfl) Tryd.func3 (by kernel_rfl)
    (of_decide_eq_true (by kernel_rfl)) (by unfold Func.isWrapper; first | (rw [if_pos (by decide +kernel)]; kernel_rfl) | (rw [if_neg (by decide +kernel)]; exact ⟨rfl, rfl⟩))
    (fun os started H enc _ F => by rw [OpenClaim.pre_eq_preRow]; exact lifted os started H enc F)
theorem plain (f : FuncId) (fn : Func) (hf : Tryd.pinned.checked.prog.funcNamed "isogloss/isoglosslaw03.KeysFirst" = some f) (hfn : Tryd.pinned.checked.prog.funcs[f]? = some fn) :
    true = Tryd.pinned.checked.prog.looks [] ∧ ∀ (j : Nat) t, fn.params[j]? = some t → Tryd.pinned.checked.prog.wantsStandIn t = false := by
  obtain rfl : f = 3 := Option.some.inj ((show Tryd.prog.funcNamed "isogloss/isoglosslaw03.KeysFirst" = some 3 by kernel_rfl).symm.trans hf) |>.symm
  obtain rfl : fn = Tryd.f3 := (Option.some.inj (Tryd.func3.symm.trans hfn)).symm
  refine ⟨by kernel_rfl, fun j t ht => ?_⟩
  rw [Tryd.params3] at ht
  have hm := Array.mem_of_getElem? ht
  have ha : ([24, 24] : List Nat).all (fun t => !Tryd.prog.wantsStandIn t) = true := by kernel_rfl
  have := List.all_eq_true.1 ha t (by simpa using hm)
  exact (by simpa using this : Tryd.prog.wantsStandIn t = false)
/-- ████ THE CARD ████ -/
theorem card : Rows.KeysFirstCardSaid :=
  Claim7.holds_tied_plain_at .later [] _ _ _ _ said (fun _ h => by cases h) (by kernel_rfl) (fun _ h => by cases h) keysFirst_row_tie rfl ⟨rfl, rfl⟩ (by kernel_rfl) rfl plain (by kernel_rfl)
end keysFirst
end Go.Proofs.YtgoaclokjenpkaaDoorS
namespace Go.Proofs.YtgoaclokjenpkaaDoor
theorem keysFirst_holds : Rows.KeysFirstCardSaid := Go.Proofs.YtgoaclokjenpkaaDoorS.keysFirst.card
end Go.Proofs.YtgoaclokjenpkaaDoor
namespace Go.Proofs.YtgoaclokjenpkaaDoorS

end Go.Proofs.YtgoaclokjenpkaaDoorS
