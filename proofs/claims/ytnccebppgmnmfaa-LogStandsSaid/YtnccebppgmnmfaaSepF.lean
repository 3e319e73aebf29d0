/- Regions whose order is open: operations that only look are taken first, the others as they come. Plain theorems. -/
import Derived.Test.YtnccebppgmnmfaaSepE
set_option linter.unusedVariables false
set_option linter.unusedSimpArgs false
namespace Go.Proofs.YtnccebppgmnmfaaS
open Go.RowKit
def PanicOk (Q : Exit → Act → World → Prop) : Prop := ∀ c (a a' : Act) w, a'.defers = a.defers → Q (.panic c) a w → Q (.panic c) a' w
section
variable {P : Program} {n : Nat} {ops : Array Oper} {Q : Exit → Act → World → Prop} {G : World} {I R : PH} {M : List Ent} {L : Sl} {S : World → Prop} {v : Value} {fuel i : Nat} {listed : Array Bool}
theorem panicOk_body {fn : Func} {Rr : Ending → World → Prop} : PanicOk (bodyPost P fn Rr) := fun c a a' w hd h => ⟨hd.trans h.1, h.2⟩
theorem panicOk_then {K : Act → World → Prop} (h : PanicOk Q) : PanicOk (Exit.then K Q) := h
theorem panicOk_in {id : Nat} (h : PanicOk Q) : PanicOk (Exit.inBlock id Q) := h
def BlkS (bl : List (Nat × List Value)) : World → Prop := fun w => ∀ p ∈ bl, ∃ t fz, w.heap[p.1]? = some (.cells p.2.toArray t fz)
theorem blk_S {bl : List (Nat × List Value)} {b : Nat} {l : List Value} {k : Nat} (h : bl[k]? = some (b, l)) : Blk (BlkS bl) b l := fun w hw => hw (b, l) (List.mem_of_getElem? h)
def allBlk (S : World → Prop) : List (Nat × List Value) → Prop
  | [] => True
  | p :: r => Blk S p.1 p.2 ∧ allBlk S r
theorem sat_S : ∀ {bl : List (Nat × List Value)}, allBlk S bl → ∀ w, S w → BlkS bl w
  | [], _, w, _, p, hp => by cases hp
  | q :: r, h, w, hw, p, hp => by
    rcases List.mem_cons.1 hp with rfl | hp
    · exact h.1 w hw
    · exact sat_S h.2 w hw p hp
def GA (P : Program) (n : Nat) (ops : Array Oper) (Q : Exit → Act → World → Prop) (S : World → Prop) (fuel : Nat) (listed : Array Bool) (L : Sl) (G : World) (I R : PH) (M : List Ent) : Prop :=
  PanicOk Q → Region.noSelect ops = true → ∀ a w, St n L G I R M a w → S w → wpAnyH P .any ops Q S fuel listed a w
def GB (P : Program) (n : Nat) (ops : Array Oper) (Q : Exit → Act → World → Prop) (S : World → Prop) (fuel : Nat) (listed : Array Bool) (i : Nat) (L : Sl) (G : World) (I R : PH) (M : List Ent) : Prop :=
  PanicOk Q → Region.noSelect ops = true → ∀ a w, St n L G I R M a w → S w → wpOp P ops Q i (fun a' w' => S w' ∧ wpAnyH P .any ops Q S fuel (listed.setIfInBounds i true) a' w') a w
theorem gc_region_draw {id N : Nat} {l : List Oper} (bl : List (Nat × List Value)) (hN : l.length = N) (hm : P.follows .mixedOrders = true) (hp : PanicOk Q) (hsel : Region.noSelect l.toArray = true) (h0 : allBlk (Sat G I R M) bl)
    (h : GA P n l.toArray Q (BlkS bl) N (Array.replicate N false) L G I R M) : GC P n Q (.region id l.toArray true) L G I R M := fun a w s => by
  subst hN
  have s' : St n L G I R M a { w with drawn := w.drawn + 1 } := ⟨s.defers, s.size, s.fr, s.sat.drawn _⟩
  exact wp_region_held hm (h hp hsel a _ s' (sat_S h0 _ s'.sat))
theorem ga_done (hr : Region.ready .any ops listed = []) (h : GQ Q .normal n L G I R M) : GA P n ops Q S fuel listed L G I R M := fun _ _ a w s _ => wpAnyH_done hr (h a w s) fuel
theorem ga_y {d : Nat} {op : Op} {T : TypeId} {pos : String} {af : Array Edge} (i : Nat) (hi : ops[i]? = some ⟨some d, op, T, pos, af, none⟩) (hf : Region.free .any ops listed i = true)
    (hr : (Region.ready .any ops listed).contains i = true) (hd : Nat.blt d n = true) (hy : Y P op T L S v) (h : GA P n ops Q S fuel (listed.setIfInBounds i true) ((d, v) :: L) G I R M) :
    GA P n ops Q S (fuel + 1) listed L G I R M := fun hp hs a w s hS =>
  wpAnyH_take hi hs hf hr (fun c a w => hp c _ _ w rfl) (.inl ⟨by simp [Region.wanted], fun w' hw' => hy _ _ _ _ a w' s.fr hw'⟩) hS (h hp hs _ w (s.put hd v) hS)
theorem yielded_of {j dj : Nat} {b : Bool} {oj : Oper} {a : Act} (hj : ops[j]? = some oj) (hdj : oj.dst = some dj) (hl : lk L dj = some (.bool b)) (f : FrOk L a) : yielded ops a.tmps j = some b := by
  have h2 := f dj _ hl
  unfold yielded
  rw [hj]
  simp only [Option.bind_some, hdj]
  cases e : a.tmps[dj]? with
  | none => rw [Array.getD_eq_getD_getElem?, e] at h2; cases h2
  | some x => rw [Array.getD_eq_getD_getElem?, e] at h2; simp only [Option.getD_some] at h2; subst h2; rfl
theorem ga_want {d : Nat} {op : Op} {T : TypeId} {pos : String} {af : Array Edge} {j dj : Nat} {want b : Bool} {oj : Oper} (i : Nat) (hi : ops[i]? = some ⟨some d, op, T, pos, af, some (j, want)⟩) (hj : ops[j]? = some oj) (hdj : oj.dst = some dj)
    (hl : lk L dj = some (.bool b)) (hb : b = want) (hf : Region.free .any ops listed i = true)
    (hr : (Region.ready .any ops listed).contains i = true) (hd : Nat.blt d n = true) (hy : Y P op T L S v) (h : GA P n ops Q S fuel (listed.setIfInBounds i true) ((d, v) :: L) G I R M) :
    GA P n ops Q S (fuel + 1) listed L G I R M := fun hp hs a w s hS =>
  wpAnyH_take hi hs hf hr (fun c a w => hp c _ _ w rfl) (.inl ⟨by simp [Region.wanted, yielded_of hj hdj hl s.fr, hb], fun w' hw' => hy _ _ _ _ a w' s.fr hw'⟩) hS (h hp hs _ w (s.put hd v) hS)
theorem ga_skip {d : Nat} {op : Op} {T : TypeId} {pos : String} {af : Array Edge} {j dj : Nat} {want b : Bool} {oj : Oper} (i : Nat) (hi : ops[i]? = some ⟨some d, op, T, pos, af, some (j, want)⟩) (hj : ops[j]? = some oj) (hdj : oj.dst = some dj)
    (hl : lk L dj = some (.bool b)) (hb : b = !want) (hf : Region.free .any ops listed i = true)
    (hr : (Region.ready .any ops listed).contains i = true) (hd : Nat.blt d n = true) (h : GA P n ops Q S fuel (listed.setIfInBounds i true) ((d, undef) :: L) G I R M) :
    GA P n ops Q S (fuel + 1) listed L G I R M := fun hp hs a w s hS =>
  wpAnyH_take hi hs hf hr (fun c a w => hp c _ _ w rfl) (.inr ⟨by simp only [Region.wanted, yielded_of hj hdj hl s.fr, hb]; cases want <;> simp, rfl⟩) hS (h hp hs _ w (s.put hd undef) hS)
theorem ga_if {t : Nat} {b : Bool} (hl : lk L t = some (.bool b)) (h1 : b = true → GA P n ops Q S fuel listed L G I R M) (h0 : b = false → GA P n ops Q S fuel listed L G I R M) :
    GA P n ops Q S fuel listed L G I R M := by cases b; exact h0 rfl; exact h1 rfl
theorem ga_all1 {i : Nat} (hr : Region.ready .any ops listed = [i]) (h : GB P n ops Q S fuel listed i L G I R M) : GA P n ops Q S (fuel + 1) listed L G I R M := fun hp hs a w s hS =>
  wpAnyH_all hr (by simp) fun k hk => by simp only [List.mem_singleton] at hk; subst hk; exact h hp hs a w s hS
theorem ga_all2 {i j : Nat} (hr : Region.ready .any ops listed = [i, j]) (h : GB P n ops Q S fuel listed i L G I R M) (h' : GB P n ops Q S fuel listed j L G I R M) : GA P n ops Q S (fuel + 1) listed L G I R M := fun hp hs a w s hS =>
  wpAnyH_all hr (by simp) fun k hk => by
    simp only [List.mem_cons, List.not_mem_nil, or_false] at hk
    rcases hk with rfl | rfl
    · exact h hp hs a w s hS
    · exact h' hp hs a w s hS
theorem ga_all3 {i j l : Nat} (hr : Region.ready .any ops listed = [i, j, l]) (h : GB P n ops Q S fuel listed i L G I R M) (h' : GB P n ops Q S fuel listed j L G I R M) (h'' : GB P n ops Q S fuel listed l L G I R M) :
    GA P n ops Q S (fuel + 1) listed L G I R M := fun hp hs a w s hS =>
  wpAnyH_all hr (by simp) fun k hk => by
    simp only [List.mem_cons, List.not_mem_nil, or_false] at hk
    rcases hk with rfl | rfl | rfl
    · exact h hp hs a w s hS
    · exact h' hp hs a w s hS
    · exact h'' hp hs a w s hS
theorem wpOp_run {o : Oper} {a : Act} {w : World} {K : Act → World → Prop} (hi : ops[i]? = some o) (hw : Region.wanted o (yielded ops a.tmps) = true) (h : o.wp P a w K Q) : wpOp P ops Q i K a w := by
  unfold wpOp
  rw [hi]
  simp only [hw, if_true]
  exact .inl h
theorem gb_y {d : Nat} {op : Op} {T : TypeId} {pos : String} {af : Array Edge} (hi : ops[i]? = some ⟨some d, op, T, pos, af, none⟩) (hd : Nat.blt d n = true) (hy : Y P op T L (Sat G I R M) v)
    (h : GA P n ops Q S fuel (listed.setIfInBounds i true) ((d, v) :: L) G I R M) : GB P n ops Q S fuel listed i L G I R M := fun hp hs a w s hS => by
  refine wpOp_run hi (by simp [Region.wanted]) ?_
  unfold Oper.wp
  rw [hy _ _ _ _ a w s.fr s.sat]
  exact ⟨hS, h hp hs _ w (s.put hd v) hS⟩
theorem gb_ef {d : Option Nat} {op : Op} {T : TypeId} {pos : String} {af : Array Edge} {K : Sl → PH → List Ent → Prop} (hi : ops[i]? = some ⟨d, op, T, pos, af, none⟩) (he : Ef P n Q d op T L G I R M K)
    (h : ∀ L' I' M', K L' I' M' → (∀ w, Sat G I' R M' w → S w) ∧ GA P n ops Q S fuel (listed.setIfInBounds i true) L' G I' R M') : GB P n ops Q S fuel listed i L G I R M := fun hp hs a w s hS => by
  refine wpOp_run hi (by simp [Region.wanted]) ?_
  exact he _ _ _ a w _ s fun L' I' M' k a' w' s' => ⟨(h L' I' M' k).1 w' s'.sat, (h L' I' M' k).2 hp hs a' w' s' ((h L' I' M' k).1 w' s'.sat)⟩
theorem gb_ef_want {d : Option Nat} {op : Op} {T : TypeId} {pos : String} {af : Array Edge} {K : Sl → PH → List Ent → Prop} {j dj : Nat} {want b : Bool} {oj : Oper} (hi : ops[i]? = some ⟨d, op, T, pos, af, some (j, want)⟩)
    (hj : ops[j]? = some oj) (hdj : oj.dst = some dj) (hl : lk L dj = some (.bool b)) (hb : b = want) (he : Ef P n Q d op T L G I R M K)
    (h : ∀ L' I' M', K L' I' M' → (∀ w, Sat G I' R M' w → S w) ∧ GA P n ops Q S fuel (listed.setIfInBounds i true) L' G I' R M') : GB P n ops Q S fuel listed i L G I R M := fun hp hs a w s hS => by
  refine wpOp_run hi (by simp [Region.wanted, yielded_of hj hdj hl s.fr, hb]) ?_
  exact he _ _ _ a w _ s fun L' I' M' k a' w' s' => ⟨(h L' I' M' k).1 w' s'.sat, (h L' I' M' k).2 hp hs a' w' s' ((h L' I' M' k).1 w' s'.sat)⟩
end
end Go.Proofs.YtnccebppgmnmfaaS
