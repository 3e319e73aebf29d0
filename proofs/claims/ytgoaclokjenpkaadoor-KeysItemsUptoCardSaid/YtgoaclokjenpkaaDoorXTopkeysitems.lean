/- KeysItems: what is no item is told. For every number and every string, where what the call reads is of bulk at most 1048576. -/
import Derived.Test.YtgoaclokjenpkaaDoorSepFacts
import Derived.Test.YtgoaclokjenpkaaDoorSepQ
import Derived.Test.YtgoaclokjenpkaaDoorXKeystop
import Derived.Test.YtgoaclokjenpkaaDoorXKeysitemslaw
set_option linter.unusedVariables false
set_option linter.unusedSimpArgs false
set_option maxRecDepth 20000
namespace Go.Proofs.YtgoaclokjenpkaaDoorS
open Go.RowKit Go.Proofs
open Go.ChangeShapes Go.WideShapes Go.RowKit Go.Deep Go.Joins
open Go.Proofs.YtgoaclokjenpkaaDoor
theorem bulk_string {H : Type} {d : DataW H} {s : ByteArray} (h : Rows.uptoSmall H ([d, .lit (.string s.data.toList)] ++ []) = true) : s.data.toList.length ≤ 1048576 := by
  simp only [Rows.uptoSmall, List.append_nil, Rows.uptoBulkAll, Rows.uptoBulk, decide_eq_true_eq] at h
  omega


namespace keysItems
abbrev args0 : Array Value := #[.int .i64 0, .string ⟨#[]⟩]
theorem laid_met (os : Os) : laidMet Tryd.prog Rows.keysItemsRow.laid ((laidWorld os).forCall (fun _ _ => 0) ⟨#[], args0, []⟩).memory := laidMet_of_run' 8 (by kernel_rfl) (by kernel_rfl)
theorem reads (os : Os) {H : Type} (enc : TypeId × Value → H) : ∃ places, DataW.whole enc Tryd.prog ((laidWorld os).forCall (fun _ _ => 0) ⟨#[], args0, []⟩).memory Tryd.f5.params.toList Rows.keysItemsSpec.vars false args0.toList 8 = some ([.lit (.int .i64 0), .lit (.string [])], [], places) := ⟨[], by kernel_rfl⟩
theorem contract (H : Type) (enc : TypeId × Value → H) (W : World) (base : Nat) (args : Array Value) (ds gs : List (DataW H)) (before : List MemPlace)
    (hval : ∀ (j : Nat) t v, Tryd.f5.params[j]? = some t → args[j]? = some v → Value.okWide Tryd.prog W .any base t v)
    (hW : DataW.Whole enc Tryd.prog Tryd.f5.params.toList Rows.keysItemsSpec.vars false W args.toList ds gs before) (hc : Rows.uptoSmall H (ds ++ gs) = true) (hs : W.ShapedOpen Tryd.prog) :
    Calls Tryd.prog 5 args W fun e W' => ∃ v, e = .returned v ∧ Rows.keysItemsSpec.post enc Tryd.prog Tryd.f5 false true false false W args v W' := by
  have hW' := hW
  obtain ⟨p, q, hA0, hV, rfl, _, _⟩ := hW
  have hA : DataW.TrodAll enc Tryd.prog W 0 (fun _ => true) true Tryd.f5.params.toList args.toList ds p := hA0
  rw [Tryd.params5] at hA hval
  obtain ⟨rfl, rfl⟩ := trodVars_none hV
  obtain ⟨v0, v1, d0, d1, p0, p1, rfl, rfl, rfl, h0, h1⟩ := trodAll_two hA
  obtain ⟨f1, hf1⟩ := h0
  obtain ⟨n, e0, _, _⟩ := DataW.trod_int Tryd.underlying3 hf1
  obtain ⟨s, rfl, rfl, _, _⟩ := Go.ChangeMaps.open_string Tryd.underlying9 (hval 1 _ v1 rfl rfl) h1
  obtain rfl : v0 = .int .i64 n := by
    have hv := hval 0 _ v0 rfl rfl
    cases v0 <;> simp_all [Value.cells, Value.okWide, Cell.okWide, Cell.ok]
  have hsl := bulk_string hc
  obtain ⟨s, rfl⟩ : ∃ l, s = bs l := ⟨s.data.toList, by simp [bs]⟩
  refine (CtrQ.calls (law_KeysItems n s (by simpa [bs] using hsl)) W (kmax_of hs)).mono fun e W' ⟨v, he, hv, hb⟩ => ?_
  subst he; subst hv
  exact ⟨_, rfl, law_post laidOut (by kernel_rfl) rfl (tb := 4) (by kernel_rfl) Tryd.underlying4 rfl rfl rfl hW' hb⟩
set_option maxRecDepth 100000 in
theorem lifted (os : Os) (started : os.Started) (H : Type) (enc : TypeId × Value → H) (F : Stop.Interp) :
    ReturnsInHanded {} Tryd.checked os 5 .any ((Rows.OpenSpec.upto Rows.keysItemsSpec).preRow enc Tryd.prog Tryd.f5 Rows.keysItemsUptoRow.domain false Rows.keysItemsUptoRow.laid) (((Rows.OpenSpec.upto Rows.keysItemsSpec).at F).post enc Tryd.prog Tryd.f5 false true false false) := by
  obtain ⟨places, hx⟩ := reads os enc
  refine returnsInHanded_of_row (C := Tryd.checked) (s := Rows.OpenSpec.upto Rows.keysItemsSpec) own started (by kernel_rfl) Tryd.func5
    (witness_row_at (enc := enc) (C := Tryd.checked) false (laidWorld os) args0 rfl (by kernel_rfl) (by kernel_rfl) (by kernel_rfl)
      (OpenSpec.preRow_of_cond 8 hx (by kernel_rfl) (fun k hk => by cases hk; kernel_rfl) (by kernel_rfl) (laid_met os))) ?_
  intro W base args ds gs before hval hW _ hcond _ _ hs _
  exact contract H enc W base args ds gs before hval hW (hcond _ rfl) hs
theorem said : Rows.KeysItemsUptoSaid :=
  OpenClaim.holds_of_cond 5 Tryd.f5 rfl rfl rfl rfl rfl rfl rfl ⟨rfl, rfl, rfl, rfl, rfl⟩ rfl rfl rfl rfl rfl (by kernel_rfl) Tryd.func5 (by kernel_rfl)
    (of_decide_eq_true (by kernel_rfl)) (by unfold Func.isWrapper; first | (rw [if_pos (by decide +kernel)]; kernel_rfl) | (rw [if_neg (by decide +kernel)]; exact ⟨rfl, rfl⟩))
    (fun os started H enc _ F => by rw [OpenClaim.pre_eq_preRow]; exact lifted os started H enc F)
theorem plain (f : FuncId) (fn : Func) (hf : Tryd.pinned.checked.prog.funcNamed "isogloss/isoglosslaw03.KeysItems" = some f) (hfn : Tryd.pinned.checked.prog.funcs[f]? = some fn) :
    true = Tryd.pinned.checked.prog.looks [] ∧ ∀ (j : Nat) t, fn.params[j]? = some t → Tryd.pinned.checked.prog.wantsStandIn t = false := by
  obtain rfl : f = 5 := Option.some.inj ((show Tryd.prog.funcNamed "isogloss/isoglosslaw03.KeysItems" = some 5 by kernel_rfl).symm.trans hf) |>.symm
  obtain rfl : fn = Tryd.f5 := (Option.some.inj (Tryd.func5.symm.trans hfn)).symm
  refine ⟨by kernel_rfl, fun j t ht => ?_⟩
  rw [Tryd.params5] at ht
  have hm := Array.mem_of_getElem? ht
  have ha : ([3, 9] : List Nat).all (fun t => !Tryd.prog.wantsStandIn t) = true := by kernel_rfl
  have := List.all_eq_true.1 ha t (by simpa using hm)
  exact (by simpa using this : Tryd.prog.wantsStandIn t = false)
/-- ████ THE CARD ████ -/
theorem card : Rows.KeysItemsUptoCardSaid :=
  Claim7.holds_tied_plain_at .later [] _ _ _ _ said (fun _ h => by cases h) (by kernel_rfl) (fun _ h => by cases h) keysItemsUpto_row_tie rfl ⟨rfl, rfl⟩ (by kernel_rfl) rfl plain (by kernel_rfl)
end keysItems
end Go.Proofs.YtgoaclokjenpkaaDoorS
namespace Go.Proofs.YtgoaclokjenpkaaDoor
theorem keysItemsUpto_holds : Rows.KeysItemsUptoCardSaid := Go.Proofs.YtgoaclokjenpkaaDoorS.keysItems.card
end Go.Proofs.YtgoaclokjenpkaaDoor
namespace Go.Proofs.YtgoaclokjenpkaaDoorS

end Go.Proofs.YtgoaclokjenpkaaDoorS
