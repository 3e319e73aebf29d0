/- From contracts to what a row asks: arguments opened, the end shut. Plain theorems: no program in sight. -/
import Derived.Test.YtnccebppgmnmfaaSepQ
import Derived.Lib.SmallJoins
import Derived.Carry
import Derived.ChangeSame
import Derived.ChangeArms
import Derived.Deep.Slices
import Derived.Deep.Fields
import Derived.Deep.DeepHandedRow
import Derived.Shelf.Vars
set_option linter.unusedVariables false
set_option linter.unusedSimpArgs false
namespace Go.Proofs.YtnccebppgmnmfaaS
open Go.ChangeShapes Go.WideShapes Go.RowKit Go.Deep Go.Joins
/-- All that a world holds, as what is known. -/
def allOf (W : World) : PH := fun i => W.heap[i]?
theorem sat_all (W : World) : Sat W (allOf W) .emp [] W :=
  ⟨rfl, rfl, rfl, .emp, rfl, PH.emp_disj _, PH.emp_disj _, PH.disj_emp _, PH.emp_inW _, fun _ _ e => e, PH.emp_inW _⟩
theorem below_all {W w' : World} {M : List Ent} (s : Sat W (allOf W) .emp M w') : Below W.heap.size W w' := by
  obtain ⟨h, a, d1, d2, d3, e, f, g⟩ := s.mem
  refine ⟨s.os, s.tape, s.output, ?_, fun k hk => ?_⟩
  · rcases Nat.eq_zero_or_pos W.heap.size with h0 | h0
    · omega
    · have := f (W.heap.size - 1) (W.heap[W.heap.size - 1]'(by omega)) (Array.getElem?_eq_getElem (by omega))
      have := (Array.getElem?_eq_some_iff.1 this).1
      omega
  · rw [f k (W.heap[k]'hk) (Array.getElem?_eq_getElem hk), Array.getElem?_eq_getElem hk]
theorem CtrQ.calls {P : Program} {f : Nat} {args : List Value} {Kn : PH → Prop} {φ : Value → Prop} (h : CtrQ P f args Kn φ) (W : World) (hk : Kn (allOf W)) :
    Calls P f args.toArray W fun e W' => ∃ v, e = .returned v ∧ φ v ∧ Below W.heap.size W W' :=
  (h W (allOf W) .emp [] W hk (sat_all W)).mono fun e W' ⟨v, he, hs, hp⟩ => ⟨v, he, hp, below_all hs⟩
theorem cells_of_cell {W : World} {b o : Nat} {v : Value} (h : W.cell? ⟨b, o, none⟩ = some v) : ∃ cs t fz, W.heap[b]? = some (.cells cs t fz) ∧ cs[o]? = some v := by
  unfold World.cell? at h
  split at h
  · rename_i cs t fz e
    exact ⟨cs, t, fz, e, by simpa using h⟩
  · cases h
section
variable {H : Type} {enc : TypeId × Value → H} {P : Program}
theorem stays_all (hl : laidOutB P = true) {W W' : World} (hb : Below W.heap.size W W') : ∀ {ts : List TypeId} {vs : List Value} {ds : List (DataW H)} {ps : List MemPlace},
    ts.all (fun t => P.readableRec t && decide (t < P.types.size)) = true → DataW.TrodAll enc P W 0 (fun _ => true) true ts vs ds ps → (∀ x ∈ ps, x.block < W.heap.size) →
    DataW.TrodAll enc P W' 0 (fun b => decide (b < W.heap.size)) true ts vs ds ps
  | [], [], [], ps, _, h, _ => h
  | t :: ts, v :: vs, d :: ds, ps, hT, ⟨p, q, h1, h2, e⟩, hlt => by
    simp only [List.all_cons, Bool.and_eq_true, decide_eq_true_eq] at hT
    subst e
    exact ⟨p, q, Below.trod hl hT.1.1 hT.1.2 h1 hb fun x hx => hlt x (List.mem_append_left _ hx), stays_all hl hb hT.2 h2 fun x hx => hlt x (List.mem_append_right _ hx), rfl⟩
/-- WHAT A LAW's END ASKS: it says true; its arguments read as they did. -/
theorem law_post {fn : Func} {s : ChangeSpec} {tb : TypeId} {apart fresh handsOn : Bool} {W W' : World} {args : Array Value} {ds gs : List (DataW H)} {before : List MemPlace}
    (hl : laidOutB P = true) (hT : fn.params.toList.all (fun t => P.readableRec t && decide (t < P.types.size)) = true) (hv : s.vars = []) (hr : fn.resultTypes = #[tb]) (hu : P.underlying tb = some .bool)
    (hs1 : (s.fn H (ds ++ gs)).results = [.lit (.bool true)]) (hs2 : (s.fn H (ds ++ gs)).args = ds) (hs3 : (s.fn H (ds ++ gs)).vars = [])
    (hW : DataW.Whole enc P fn.params.toList s.vars apart W args.toList ds gs before) (hb : Below W.heap.size W W') :
    s.post enc P fn apart fresh handsOn false W args (.bool true) W' := by
  have hW' := hW
  obtain ⟨p, q, hA, hV, rfl, _, _⟩ := hW
  have hlt : ∀ x ∈ p ++ q, x.block < W.heap.size := fun x hx => by simpa using hW'.lt x hx
  refine ⟨ds, gs, p ++ q, [], p, [], hW', ?_, ?_, ?_, hb.frame _, fun h => by cases h⟩
  · rw [hs1, hr]; exact trodAll_mk1 ⟨1, by simp [DataW.trod, Value.cells, hu]⟩
  · rw [hs2]; exact stays_all hl hb hT hA fun x hx => hlt x (List.mem_append_left _ hx)
  · rw [hs3, hv]; rfl
variable {w : World} {base : Nat} {spare : Nat → Bool} {held : Bool}
theorem open_agg5 {r : Reach} {b0 : Nat} {t : TypeId} {f0 f1 f2 f3 f4 : Field} {v : Value} {d : DataW H} {p : List MemPlace} (hs : P.underlying t = some (.struct #[f0, f1, f2, f3, f4])) (hone : oneCellFields P #[f0, f1, f2, f3, f4] = true) (hC : P.cellsOf t = 5)
    (hv : Value.okWide P w r b0 t v) (h : DataW.Trod enc P w base spare held t v d p) :
    ∃ (v0 v1 v2 v3 v4 : Value) (y0 y1 y2 y3 y4 : DataW H × List MemPlace) (n : Nat), v = .agg #[v0, v1, v2, v3, v4] ∧ d = .agg [y0.1, y1.1, y2.1, y3.1, y4.1] ∧ p = y0.2 ++ (y1.2 ++ (y2.2 ++ (y3.2 ++ y4.2))) ∧
      DataW.trod enc P w base spare held n f0.type [v0] = some y0 ∧ DataW.trod enc P w base spare held n f1.type [v1] = some y1 ∧ DataW.trod enc P w base spare held n f2.type [v2] = some y2 ∧ DataW.trod enc P w base spare held n f3.type [v3] = some y3 ∧ DataW.trod enc P w base spare held n f4.type [v4] = some y4 := by
  obtain ⟨cs, rfl, hsz⟩ := okWide_struct hs hv
  obtain ⟨l⟩ := cs
  match l, hsz.trans hC with
  | [c0, c1, c2, c3, c4], _ =>
    obtain ⟨fuel, hf⟩ := h
    obtain ⟨xs, n, _, hx, _, hlen, hg⟩ := DataW.trod_struct hs hf
    obtain ⟨o0, k0⟩ := hone_of hone 0 f0 rfl
    obtain ⟨o1, k1⟩ := hone_of hone 1 f1 rfl
    obtain ⟨o2, k2⟩ := hone_of hone 2 f2 rfl
    obtain ⟨o3, k3⟩ := hone_of hone 3 f3 rfl
    obtain ⟨o4, k4⟩ := hone_of hone 4 f4 rfl
    match xs, hlen with
    | [y0, y1, y2, y3, y4], _ =>
      simp only [Prod.mk.injEq] at hx
      exact ⟨c0, c1, c2, c3, c4, y0, y1, y2, y3, y4, n, rfl, by simpa using hx.1, by simpa using hx.2, by simpa [Value.cells, o0, k0] using hg 0 f0 rfl, by simpa [Value.cells, o1, k1] using hg 1 f1 rfl, by simpa [Value.cells, o2, k2] using hg 2 f2 rfl, by simpa [Value.cells, o3, k3] using hg 3 f3 rfl, by simpa [Value.cells, o4, k4] using hg 4 f4 rfl⟩
theorem open_slice_fields {t e : TypeId} {fs : Array Field} {fuel : Nat} {cs : List Value} {x : DataW H × List MemPlace} (ht : P.underlying t = some (.slice e)) (he : P.underlying e = some (.struct fs))
    (hone : oneCellFields P fs = true) (hC : P.cellsOf e = fs.size) (h : DataW.trod enc P w base spare held fuel t cs = some x) :
    (cs = [.slice none 0 0] ∧ x = (.nil, [])) ∨
    ∃ (a : Addr) (len cap m : Nat) (D : Nat → DataW H) (Pl : Nat → List MemPlace), cs = [.slice (some a) len cap] ∧ base ≤ a.block ∧ len ≤ cap ∧ cap ≤ maxLen ∧ m = (if spare a.block then cap else len) ∧
      x = (.slice ((List.range len).map D) ((List.range (m - len)).map fun j => D (len + j)), MemPlace.row a (m * fs.size) ++ (List.range m).flatMap Pl) ∧
      ∀ i, i < m → ∃ (ys : List (DataW H × List MemPlace)) (n : Nat), D i = .agg (ys.map (·.1)) ∧ Pl i = ys.flatMap (·.2) ∧ ys.length = fs.size ∧
        ∀ (j : Nat) (f : Field), fs[j]? = some f → ∃ (v : Value) (y : DataW H × List MemPlace), w.cell? (a.add (i * fs.size + j)) = some v ∧ ys[j]? = some y ∧ DataW.trod enc P w base spare held n f.type [v] = some y := by
  rcases open_slice ht h with h0 | ⟨a, len, cap, m, n, D, Pl, hcs, hb, hl, hm, hmm, hx, hi⟩
  · exact .inl h0
  · refine .inr ⟨a, len, cap, m, D, Pl, hcs, hb, hl, hm, hmm, by rw [hC] at hx; exact hx, fun i him => ?_⟩
    obtain ⟨cs', hc, ht'⟩ := hi i him
    rw [hC] at hc
    obtain ⟨ys, n', hn', hy, hlen, hyl, hf⟩ := DataW.trod_struct he ht'
    obtain ⟨_, hcl, hat⟩ := World.cells?_some hc
    simp only [Prod.mk.injEq] at hy
    refine ⟨ys, n', hy.1, hy.2, hyl, fun j f hj => ?_⟩
    obtain ⟨ho, hk⟩ := hone_of hone j f hj
    have hjl : j < fs.size := (Array.getElem?_eq_some_iff.1 hj).1
    have hcell := hat j hjl
    have hv : cs'[j]? = some (cs'[j]'(by omega)) := List.getElem?_eq_getElem (by omega)
    have h1 := hf j f hj
    rw [ho, hk] at h1
    have hone' : (cs'.drop j).take 1 = [cs'[j]'(by omega)] := by
      rw [List.drop_eq_getElem_cons (by omega)]
      rfl
    rw [hone'] at h1
    have hys : ys[j]? = some (ys[j]'(by omega)) := List.getElem?_eq_getElem (by omega)
    refine ⟨_, _, ?_, hys, h1.trans hys⟩
    rw [← Go.Deep.add_add, hcell, hv]
end
/-- The rows of a slice that came in, known. -/
theorem rows_known {α : Type} [Inhabited α] (enc : α → List Value) (k : Nat) (hk : ∀ a, (enc a).length = k) (hk0 : 0 < k) (ok : α → Prop) {W : World} {a : Addr} {n : Nat}
    (h : ∀ i, i < n → ∃ x, ok x ∧ ∀ j u, (enc x)[j]? = some u → W.cell? (a.add (i * k + j)) = some u) :
    ∃ l : List α, l.length = n ∧ (∀ x ∈ l, ok x) ∧ Rsl (allOf W) k (some a) n ((l.map enc).flatten) := by
  obtain ⟨f, hf⟩ := choose_lt h
  refine ⟨(List.range n).map f, by simp, fun x hx => ?_, ?_, fun hp => ?_⟩
  · obtain ⟨i, hi, rfl⟩ := List.mem_map.1 hx
    exact (hf i (List.mem_range.1 hi)).1
  · rw [flat_len hk]; simp
  · obtain ⟨b, o, spot⟩ := a
    have hcell : ∀ i, i < n → ∀ j u, (enc (f i))[j]? = some u → W.cell? (Addr.add ⟨b, o, spot⟩ (i * k + j)) = some u := fun i hi => (hf i hi).2
    have h0 : ∃ u, (enc (f 0))[0]? = some u := ⟨_, List.getElem?_eq_getElem (by rw [hk]; exact hk0)⟩
    obtain ⟨u0, hu0⟩ := h0
    have hspot : spot = none := by simpa [Addr.add] using World.cell?_spot (hcell 0 hp 0 u0 hu0)
    subst hspot
    have hc0 := hcell 0 hp 0 u0 hu0
    have hadd : ∀ i, Addr.add ⟨b, o, none⟩ i = ⟨b, o + i, none⟩ := fun i => Go.WideShapes.add_plain b o i
    rw [hadd] at hc0
    obtain ⟨cs, t, fz, hb, _⟩ := cells_of_cell hc0
    refine ⟨b, o, t, fz, cs.toList, rfl, by show W.heap[b]? = _; rw [hb], fun j u hj => ?_⟩
    have hj1 := (List.getElem?_eq_some_iff.1 hj).1
    rw [flat_len hk] at hj1
    simp only [List.length_map, List.length_range] at hj1
    have hi : j / k < n := Nat.div_lt_of_lt_mul (by rw [Nat.mul_comm]; exact hj1)
    have hm : j % k < k := Nat.mod_lt _ hk0
    have he : j / k * k + j % k = j := by rw [Nat.mul_comm]; exact Nat.div_add_mod j k
    have hg := flat_get hk ((List.range n).map f) (j / k) (j % k) (f (j / k)) (by simp [hi]) hm
    rw [he, hj] at hg
    have hc := hcell (j / k) hi (j % k) u hg.symm
    rw [hadd, he] at hc
    unfold World.cell? at hc
    rw [hb] at hc
    simpa using hc
end Go.Proofs.YtnccebppgmnmfaaS
