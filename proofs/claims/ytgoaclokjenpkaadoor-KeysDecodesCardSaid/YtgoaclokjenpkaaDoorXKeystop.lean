/- keystop: the laws of keys, from the walk to the given statement. -/
import Derived.Test.YtgoaclokjenpkaaDoorSepFacts
import Derived.Test.YtgoaclokjenpkaaDoorSepQ
import Derived.Test.YtgoaclokjenpkaaDoorSepT
import Derived.Test.YtgoaclokjenpkaaDoorCards
import Derived.Test.YtgoaclokjenpkaaDoorTie
import Derived.Test.YtgoaclokjenpkaaDoorXKeyslaw
set_option linter.unusedVariables false
set_option linter.unusedSimpArgs false
set_option maxRecDepth 20000
namespace Go.Proofs.YtgoaclokjenpkaaDoorS
open Go.RowKit Go.Proofs

open Go.ChangeShapes Go.WideShapes Go.RowKit Go.Deep Go.Joins
theorem own : ownKnob Tryd.prog.godebug = none := by kernel_rfl
theorem laidOut : laidOutB Tryd.prog = true := by kernel_rfl
theorem kmax_of {W : World} (h : W.ShapedOpen Tryd.prog) : KMax (allOf W) := by
  obtain ⟨m, hm⟩ := cell_of_shapedOpen_int (P := Tryd.prog) (g := 0) (t := 3) (zero := #[.int .i64 0]) h (of_decide_eq_true (by kernel_rfl)) (by kernel_rfl) rfl (by kernel_rfl) (by kernel_rfl) Tryd.underlying3
  have h0 : ((begin Tryd.prog (fun _ _ => 0) default).world.heap[0]?).bind Obj.row? = some (#[.int .i64 0], 3) := by kernel_rfl
  obtain ⟨cs, hh, hs, _⟩ := h.1 0 _ _ (of_decide_eq_true (by kernel_rfl)) h0
  have hc : cs[0]? = some (.int .i64 m) := by
    unfold World.cell? at hm
    rw [hh] at hm
    simpa using hm
  obtain ⟨l⟩ := cs
  match l, hs with
  | [c], _ =>
    simp at hc
    subst hc
    exact ⟨m, _, _, hh⟩
theorem open_item {H : Type} {enc : TypeId × Value → H} {W : World} {base b0 : Nat} {sp : Nat → Bool} {held : Bool} {r : Reach} {v : Value} {d : DataW H} {p : List MemPlace}
    (hv : Value.okWide Tryd.prog W r b0 24 v) (h : DataW.Trod enc Tryd.prog W base sp held 24 v d p) : ∃ x : RI, v = .agg x.cells.toArray ∧ x.ok := by
  obtain ⟨v0, v1, v2, v3, v4, y0, y1, y2, y3, y4, n, rfl, _, _, h0, h1, h2, h3, h4⟩ := open_agg5 Tryd.underlying24 (by kernel_rfl) (by kernel_rfl) hv h
  obtain ⟨n0, e0, _, w0⟩ := DataW.trod_int Tryd.underlying5 h0
  obtain ⟨n1, e1, _, w1⟩ := DataW.trod_int Tryd.underlying2 h1
  obtain ⟨n2, e2, _, w2⟩ := DataW.trod_int Tryd.underlying22 h2
  obtain ⟨s3, e3, _, w3⟩ := DataW.trod_string Tryd.underlying9 h3
  obtain ⟨b4, e4, _⟩ := DataW.trod_bool Tryd.underlying4 h4
  cases e0; cases e1; cases e2; cases e3; cases e4
  have w0 := bounds_u8 w0
  have w1 := bounds_i64 w1
  have w2 := bounds_u64 w2
  refine ⟨⟨n0.toNat, n1, n2.toNat, s3.data.toList, b4⟩, ?_, by show n0.toNat < 256; omega, w1.1, w1.2, by show n2.toNat < 2 ^ 64; omega⟩
  have a0 : ((n0.toNat : Nat) : Int) = n0 := by omega
  have a2 : ((n2.toNat : Nat) : Int) = n2 := by omega
  have a3 : bs s3.data.toList = s3 := by simp [bs]
  simp only [RI.cells, a0, a2, a3]

open Go.Proofs.YtgoaclokjenpkaaDoor
theorem g_accept : Tryd.prog.globalNamed "unicode/utf8.acceptRanges" = some 2 := by kernel_rfl
theorem g_first : Tryd.prog.globalNamed "unicode/utf8.first" = some 1 := by kernel_rfl
/-- A world for the witness: the tables hold what the row says. -/
def putCells (g : Nat) (cs : List Value) (h : Array Obj) : Array Obj := h.modify g fun
  | .cells _ t fz => .cells cs.toArray t fz
  | o => o
noncomputable def laidWorld (os : Os) : World :=
  { World.holding Tryd.prog os ⟨#[], #[], []⟩ with heap := putCells 1 (Go.Pinned.utf8FirstZ.map fun (n : Nat) => Value.int .u8 (n : Int)) (putCells 2 [.int .u8 128, .int .u8 191, .int .u8 160, .int .u8 191, .int .u8 128, .int .u8 159, .int .u8 144, .int .u8 191, .int .u8 128, .int .u8 143, .int .u8 0, .int .u8 0, .int .u8 0, .int .u8 0, .int .u8 0, .int .u8 0, .int .u8 0, .int .u8 0, .int .u8 0, .int .u8 0, .int .u8 0, .int .u8 0, .int .u8 0, .int .u8 0, .int .u8 0, .int .u8 0, .int .u8 0, .int .u8 0, .int .u8 0, .int .u8 0, .int .u8 0, .int .u8 0] (World.holding Tryd.prog os ⟨#[], #[], []⟩).heap) }

end Go.Proofs.YtgoaclokjenpkaaDoorS
