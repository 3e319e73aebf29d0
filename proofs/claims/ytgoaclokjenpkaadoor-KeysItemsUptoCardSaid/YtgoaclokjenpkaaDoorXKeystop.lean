/- keystop: the laws of keys, from the walk to the given statement. -/
import Derived.Test.YtgoaclokjenpkaaDoorSepFacts
import Derived.Test.YtgoaclokjenpkaaDoorSepQ
import Derived.Test.YtgoaclokjenpkaaDoorSepT
import Derived.Test.YtgoaclokjenpkaaDoorCards
import Derived.Test.YtgoaclokjenpkaaDoorTie
import Derived.Test.YtgoaclokjenpkaaDoorXKeyslaw
set_option linter.unusedVariables false
set_option linter.unusedSimpArgs false
set_option maxRecDepth 20000
namespace Go.Proofs.YtgoaclokjenpkaaDoorS
open Go.RowKit Go.Proofs

open Go.ChangeShapes Go.WideShapes Go.RowKit Go.Deep Go.Joins
theorem own : ownKnob Tryd.prog.godebug = none := by kernel_rfl
theorem laidOut : laidOutB Tryd.prog = true := by kernel_rfl
theorem kmax_of {W : World} (h : W.ShapedOpen Tryd.prog) : KMax (allOf W) := by
  obtain ⟨m, hm⟩ := cell_of_shapedOpen_int (P := Tryd.prog) (g := 0) (t := 3) (zero := #[.int .i64 0]) h (of_decide_eq_true (by kernel_rfl)) (by kernel_rfl) rfl (by kernel_rfl) (by kernel_rfl) Tryd.underlying3
  have h0 : ((begin Tryd.prog (fun _ _ => 0) default).world.heap[0]?).bind Obj.row? = some (#[.int .i64 0], 3) := by kernel_rfl
  obtain ⟨cs, hh, hs, _⟩ := h.1 0 _ _ (of_decide_eq_true (by kernel_rfl)) h0
  have hc : cs[0]? = some (.int .i64 m) := by
    unfold World.cell? at hm
    rw [hh] at hm
    simpa using hm
  obtain ⟨l⟩ := cs
  match l, hs with
  | [c], _ =>
    simp at hc
    subst hc
    exact ⟨m, _, _, hh⟩
theorem item_cells {H : Type} {enc : TypeId × Value → H} {W : World} {base n : Nat} {sp : Nat → Bool} {held : Bool} {v0 v1 v2 v3 v4 : Value} {y0 y1 y2 y3 y4 : DataW H × List MemPlace}
    (h0 : DataW.trod enc Tryd.prog W base sp held n 5 [v0] = some y0) (h1 : DataW.trod enc Tryd.prog W base sp held n 2 [v1] = some y1) (h2 : DataW.trod enc Tryd.prog W base sp held n 22 [v2] = some y2)
    (h3 : DataW.trod enc Tryd.prog W base sp held n 9 [v3] = some y3) (h4 : DataW.trod enc Tryd.prog W base sp held n 4 [v4] = some y4) : ∃ x : RI, [v0, v1, v2, v3, v4] = x.cells ∧ x.ok := by
  obtain ⟨n0, e0, _, w0⟩ := DataW.trod_int Tryd.underlying5 h0
  obtain ⟨n1, e1, _, w1⟩ := DataW.trod_int Tryd.underlying2 h1
  obtain ⟨n2, e2, _, w2⟩ := DataW.trod_int Tryd.underlying22 h2
  obtain ⟨s3, e3, _, w3⟩ := DataW.trod_string Tryd.underlying9 h3
  obtain ⟨b4, e4, _⟩ := DataW.trod_bool Tryd.underlying4 h4
  cases e0; cases e1; cases e2; cases e3; cases e4
  have w0 := bounds_u8 w0
  have w1 := bounds_i64 w1
  have w2 := bounds_u64 w2
  refine ⟨⟨n0.toNat, n1, n2.toNat, s3.data.toList, b4⟩, ?_, by show n0.toNat < 256; omega, w1.1, w1.2, by show n2.toNat < 2 ^ 64; omega⟩
  have a0 : ((n0.toNat : Nat) : Int) = n0 := by omega
  have a2 : ((n2.toNat : Nat) : Int) = n2 := by omega
  have a3 : bs s3.data.toList = s3 := by simp [bs]
  simp only [RI.cells, a0, a2, a3]
theorem open_item {H : Type} {enc : TypeId × Value → H} {W : World} {base b0 : Nat} {sp : Nat → Bool} {held : Bool} {r : Reach} {v : Value} {d : DataW H} {p : List MemPlace}
    (hv : Value.okWide Tryd.prog W r b0 24 v) (h : DataW.Trod enc Tryd.prog W base sp held 24 v d p) : ∃ x : RI, v = .agg x.cells.toArray ∧ x.ok := by
  obtain ⟨v0, v1, v2, v3, v4, y0, y1, y2, y3, y4, n, rfl, _, _, h0, h1, h2, h3, h4⟩ := open_agg5 Tryd.underlying24 (by kernel_rfl) (by kernel_rfl) hv h
  obtain ⟨x, hx, ok⟩ := item_cells h0 h1 h2 h3 h4
  exact ⟨x, by rw [← hx], ok⟩
instance : Inhabited RI := ⟨⟨0, 0, 0, [], false⟩⟩
theorem open_items {H : Type} {enc : TypeId × Value → H} {W : World} {base b0 : Nat} {sp : Nat → Bool} {held : Bool} {r : Reach} {v : Value} {d : DataW H} {p : List MemPlace}
    (hv : Value.okWide Tryd.prog W r b0 27 v) (h : DataW.Trod enc Tryd.prog W base sp held 27 v d p) :
    ∃ (A : Option Addr) (c : Nat) (l : List RI), v = .slice A l.length c ∧ (∀ x ∈ l, x.ok) ∧ l.length ≤ 9223372036854775807 ∧ Rsl (allOf W) 5 A l.length ((l.map RI.cells).flatten) := by
  obtain ⟨a0, len0, cap0, rfl⟩ := okWide_slice Tryd.underlying27 hv
  obtain ⟨fuel, hf⟩ := h
  rcases open_slice_fields Tryd.underlying27 Tryd.underlying24 (by kernel_rfl) (by kernel_rfl) hf with ⟨e, _⟩ | ⟨a, len, cap, m, D, Pl, e, _, hl, hm, hmm, _, hi⟩
  · simp [Value.cells] at e
    obtain ⟨rfl, rfl, rfl⟩ := e
    exact ⟨none, 0, [], rfl, by simp, by simp, by simp, fun h => absurd h (Nat.lt_irrefl 0)⟩
  · simp [Value.cells] at e
    obtain ⟨rfl, rfl, rfl⟩ := e
    have hlm : len0 ≤ m := by rw [hmm]; split <;> omega
    obtain ⟨l, hl1, hl2, hl3⟩ := rows_known RI.cells 5 (fun _ => rfl) (by decide) RI.ok (W := W) (a := a) (n := len0) fun i hi' => by
      obtain ⟨ys, n', _, _, _, hf⟩ := hi i (by omega)
      obtain ⟨v0, y0, c0, _, h0⟩ := hf 0 _ rfl
      obtain ⟨v1, y1, c1, _, h1⟩ := hf 1 _ rfl
      obtain ⟨v2, y2, c2, _, h2⟩ := hf 2 _ rfl
      obtain ⟨v3, y3, c3, _, h3⟩ := hf 3 _ rfl
      obtain ⟨v4, y4, c4, _, h4⟩ := hf 4 _ rfl
      obtain ⟨x, hx, ok⟩ := item_cells h0 h1 h2 h3 h4
      refine ⟨x, ok, fun j u hj => ?_⟩
      rw [← hx] at hj
      match j, hj with
      | 0, hj => cases hj; exact c0
      | 1, hj => cases hj; exact c1
      | 2, hj => cases hj; exact c2
      | 3, hj => cases hj; exact c3
      | 4, hj => cases hj; exact c4
    subst hl1
    refine ⟨some a, cap0, l, rfl, hl2, ?_, hl3⟩
    have : cap0 ≤ 2 ^ 63 - 1 := hm
    omega

open Go.Proofs.YtgoaclokjenpkaaDoor
theorem g_accept : Tryd.prog.globalNamed "unicode/utf8.acceptRanges" = some 2 := by kernel_rfl
theorem g_first : Tryd.prog.globalNamed "unicode/utf8.first" = some 1 := by kernel_rfl
/-- A world for the witness: the tables hold what the row says. -/
def putCells (g : Nat) (cs : List Value) (h : Array Obj) : Array Obj := h.modify g fun
  | .cells _ t fz => .cells cs.toArray t fz
  | o => o
noncomputable def laidWorld (os : Os) : World :=
  { World.holding Tryd.prog os ⟨#[], #[], []⟩ with heap := putCells 1 (Go.Pinned.utf8FirstZ.map fun (n : Nat) => Value.int .u8 (n : Int)) (putCells 2 [.int .u8 128, .int .u8 191, .int .u8 160, .int .u8 191, .int .u8 128, .int .u8 159, .int .u8 144, .int .u8 191, .int .u8 128, .int .u8 143, .int .u8 0, .int .u8 0, .int .u8 0, .int .u8 0, .int .u8 0, .int .u8 0, .int .u8 0, .int .u8 0, .int .u8 0, .int .u8 0, .int .u8 0, .int .u8 0, .int .u8 0, .int .u8 0, .int .u8 0, .int .u8 0, .int .u8 0, .int .u8 0, .int .u8 0, .int .u8 0, .int .u8 0, .int .u8 0] (World.holding Tryd.prog os ⟨#[], #[], []⟩).heap) }

end Go.Proofs.YtgoaclokjenpkaaDoorS
