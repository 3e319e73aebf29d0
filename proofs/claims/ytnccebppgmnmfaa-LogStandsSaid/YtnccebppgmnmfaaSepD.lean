/- Memory: loads, stores, new blocks, addresses, slices that are read. Plain theorems. -/
import Derived.Test.YtnccebppgmnmfaaSepC
import Derived.Lib.ConvBytes
import Derived.Laws.Slices
set_option linter.unusedVariables false
set_option linter.unusedSimpArgs false
namespace Go.Proofs.YtnccebppgmnmfaaS
open Go.RowKit

def szf (P : Program) (t : TypeId) : Option Nat := (P.info? t).map (·.size)
def byf (P : Program) (t : TypeId) : Option Nat := (P.info? t).map (·.bytes)
def zrf (P : Program) (t : TypeId) : Option Value := (P.info? t).bind (·.zero)
def aggd : TypeDesc → Bool | .struct _ => true | .array _ _ => true | _ => false
def agf (P : Program) (t : TypeId) : Option Bool := (P.underlying t).map aggd
def fof (P : Program) (t : TypeId) (i : Nat) : Option Nat :=
  match P.underlying t with
  | some (.struct fs) => match fs[i]? with
    | some f => match szf P f.type with | some (k + 1) => some f.offset | _ => none
    | none => none
  | _ => none
section
variable {P : Program} {n : Nat} {ops : Array Oper} {Q : Exit → Act → World → Prop} {G : World} {I R I0 : PH} {M : List Ent} {L : Sl} {fn : Func} {v u : Value} {w : World}
variable {S : World → Prop} {T : TypeId} {x y z : Operand}
theorem info_of_sz {t k : Nat} (h : szf P t = some k) : ∃ i, P.info? t = some i ∧ i.size = k := by
  unfold szf at h; cases e : P.info? t with
  | none => rw [e] at h; cases h
  | some i => rw [e] at h; exact ⟨i, rfl, by simpa using h⟩
theorem info_of_zr {t : Nat} (h : zrf P t = some v) : ∃ i, P.info? t = some i ∧ i.zero = some v := by
  unfold zrf at h; cases e : P.info? t with
  | none => rw [e] at h; cases h
  | some i => rw [e] at h; exact ⟨i, rfl, by simpa using h⟩
theorem und_of_ag {t : Nat} {b : Bool} (h : agf P t = some b) : ∃ d, P.underlying t = some d ∧ aggd d = b := by
  unfold agf at h; cases e : P.underlying t with
  | none => rw [e] at h; cases h
  | some d => rw [e] at h; exact ⟨d, rfl, by simpa using h⟩
theorem run_isAgg {t : Nat} {b : Bool} (h : agf P t = some b) : (isAgg t).run P w = .ok b w := by
  obtain ⟨d, hd, rfl⟩ := und_of_ag h
  cases d <;> simp [isAgg, underlying, hd, aggd]
theorem run_sizeOf {t k : Nat} (h : szf P t = some k) : (sizeOf t).run P w = .ok k w := by
  obtain ⟨i, hi, rfl⟩ := info_of_sz h; simp [sizeOf, typeInfo, hi]
theorem run_zero {t : Nat} (h : zrf P t = some v) : (zeroValue t).run P w = .ok v w := by
  obtain ⟨i, hi, hz⟩ := info_of_zr h; simp [zeroValue, typeInfo, hi, hz]

/-! ### Blocks of cells: none of them is shared with a string -/
def okfz (fz : Nat × Nat) (n : Nat) : Prop := n ≤ fz.1 ∨ fz = (0, 0)
def cl (b : Nat) (t : TypeId) (l : List Value) : Ent := fun h => ∃ fz, okfz fz l.length ∧ h = PH.single b (.cells l.toArray t fz)
theorem Sat.weaken {i : Nat} {e e' : Ent} (s : Sat G I R M w) (h : M[i]? = some e) (hw : ∀ k, e k → e' k) : Sat G I R (M.set i e') w := by
  refine Sat.perm (M := e' :: M.eraseIdx i) ?_ (set_perm h)
  obtain ⟨k, ⟨h1, h2, x, r⟩, d⟩ := (s.perm (get_perm h)).mem
  exact ⟨s.os, s.tape, s.output, k, ⟨h1, h2, hw _ x, r⟩, d⟩
/-- What an entry says of itself holds. -/
theorem Sat.says {i : Nat} {e : Ent} {p : Prop} (s : Sat G I R M w) (h : M[i]? = some e) (hp : ∀ k, e k → p) : p := by
  obtain ⟨k, ⟨h1, h2, x, r⟩, d⟩ := (s.perm (get_perm h)).mem
  exact hp _ x
theorem Sat.exi {i : Nat} {α : Type} {e : Ent} {p : α → Ent} (s : Sat G I R M w) (h : M[i]? = some e) (hp : ∀ k, e k → ∃ x, p x k) : ∃ x, Sat G I R (M.set i (p x)) w := by
  obtain ⟨k, ⟨h1, h2, x, r⟩, d⟩ := (s.perm (get_perm h)).mem
  obtain ⟨y, hy⟩ := hp _ x
  exact ⟨y, Sat.perm (M := p y :: M.eraseIdx i) ⟨s.os, s.tape, s.output, k, ⟨h1, h2, hy, r⟩, d⟩ (set_perm h)⟩
/-- The heap of an entry: whatever else is true of it may stand in its place. -/
theorem Sat.open {i : Nat} {e : Ent} (s : Sat G I R M w) (h : M[i]? = some e) : ∃ k, e k ∧ ∀ e' : Ent, e' k → Sat G I R (M.set i e') w := by
  obtain ⟨k, ⟨h1, h2, x, r⟩, d⟩ := (s.perm (get_perm h)).mem
  exact ⟨h1, x, fun e' he => Sat.perm (M := e' :: M.eraseIdx i) ⟨s.os, s.tape, s.output, k, ⟨h1, h2, he, r⟩, d⟩ (set_perm h)⟩
theorem get_set {α : Type} {M : List α} {i : Nat} {e f : α} (h : M[i]? = some e) : (M.set i f)[i]? = some f := List.getElem?_set_self (List.getElem?_eq_some_iff.1 h).1
theorem Sat.cl {i b : Nat} {t : TypeId} {l : List Value} (s : Sat G I R M w) (h : M[i]? = some (cl b t l)) : ∃ fz, okfz fz l.length ∧ Sat G I R (M.set i (blk b (.cells l.toArray t fz))) w := by
  obtain ⟨fz, h1⟩ := s.exi (p := fun fz k => okfz fz l.length ∧ k = PH.single b (.cells l.toArray t fz)) h fun k hk => hk
  exact ⟨fz, (h1.says (get_set h) fun k hk => hk.1), by
    have := h1.weaken (e' := blk b (.cells l.toArray t fz)) (get_set h) fun k hk => hk.2
    rwa [List.set_set] at this⟩
theorem Sat.cl_back {i b : Nat} {t : TypeId} {l : List Value} {fz : Nat × Nat} (s : Sat G I R M w) (h : M[i]? = some (blk b (.cells l.toArray t fz))) (hf : okfz fz l.length) : Sat G I R (M.set i (YtnccebppgmnmfaaS.cl b t l)) w :=
  s.weaken h fun k hk => ⟨fz, hf, hk⟩
theorem Sat.alloc_cl {t : TypeId} {l : List Value} (s : Sat G I R M w) : Sat G I R (M ++ [YtnccebppgmnmfaaS.cl w.heap.size t l]) (w.alloc (.cells l.toArray t (0, 0))) := by
  have := (s.alloc (.cells l.toArray t (0, 0))).weaken (i := M.length) (e := blk w.heap.size (.cells l.toArray t (0, 0))) (e' := YtnccebppgmnmfaaS.cl w.heap.size t l) (by simp) fun k hk => ⟨_, .inr rfl, hk⟩
  simpa using this
/-- In worlds that meet S block b holds these cells. -/
def Blk (S : World → Prop) (b : Nat) (l : List Value) : Prop := ∀ w, S w → ∃ t fz, w.heap[b]? = some (.cells l.toArray t fz)
theorem blk_own {i b : Nat} {t : TypeId} {l : List Value} (h : M[i]? = some (YtnccebppgmnmfaaS.cl b t l)) : Blk (Sat G I R M) b l := fun w s => by
  obtain ⟨fz, _, s1⟩ := s.cl h
  exact ⟨_, fz, s1.block (get_set h)⟩
theorem blk_known {b : Nat} {t : TypeId} {l : List Value} {fz : Nat × Nat} (h : I b = some (.cells l.toArray t fz)) : Blk (Sat G I R M) b l := fun w s => ⟨_, _, s.known h⟩
theorem cell_of {b o : Nat} {t : TypeId} {l : List Value} {fz : Nat × Nat} (h : w.heap[b]? = some (.cells l.toArray t fz)) : w.cell? ⟨b, o, none⟩ = l[o]? := by
  simp [World.cell?, h]
theorem y_load {t b o : Nat} {l : List Value} (ha : agf P t = some false) (hx : ev L x = some (.pointer (some ⟨b, o, none⟩))) (hb : Blk S b l) (hv : l[o]? = some v) :
    Y P (.load t x) T L S v := fun _ _ _ _ a w f hs => by
  obtain ⟨t', fz, h⟩ := hb w hs
  have hc : w.cell? ⟨b, o, none⟩ = some v := by rw [cell_of h, hv]
  have h1 : (Instr.loadAt t (.pointer (some ⟨b, o, none⟩))).run P w = .ok v w := by
    simp [Instr.loadAt, Instr.sureAddr, loadVar, run_isAgg ha, hc]
  simp [execOp, f.val hx, h1]
theorem run_loadCells_of {b o k : Nat} {t : TypeId} {l vs : List Value} {fz : Nat × Nat} (h : w.heap[b]? = some (.cells l.toArray t fz)) (hk : vs.length = k) (hv : ∀ j u, vs[j]? = some u → l[o + j]? = some u) :
    (loadCells ⟨b, o, none⟩ k).run P w = .ok vs.toArray w := by
  subst hk
  refine run_loadCells_list w ⟨b, o, none⟩ vs fun j u hj => ?_
  rw [Addr.add_lit, cell_of h]
  exact hv j u hj
theorem y_loadA {t b o k : Nat} {l vs : List Value} (ha : agf P t = some true) (hz : szf P t = some k) (hx : ev L x = some (.pointer (some ⟨b, o, none⟩))) (hb : Blk S b l) (hk : vs.length = k)
    (hv : ∀ j u, vs[j]? = some u → l[o + j]? = some u) : Y P (.load t x) T L S (.agg vs.toArray) := fun _ _ _ _ a w f hs => by
  obtain ⟨t', fz, h⟩ := hb w hs
  have h1 : (Instr.loadAt t (.pointer (some ⟨b, o, none⟩))).run P w = .ok (.agg vs.toArray) w := by
    simp [Instr.loadAt, Instr.sureAddr, loadVar, run_isAgg ha, run_sizeOf hz, run_loadCells_of h hk hv]
  simp [execOp, f.val hx, h1]
/-- Where a whole block is read. -/
theorem at_all (l : List Value) : ∀ j u, l[j]? = some u → l[0 + j]? = some u := fun j u h => by rw [Nat.zero_add]; exact h
theorem y_nilck {p : Addr} (hx : ev L x = some (.pointer (some p))) : Y P (.nilCheck x) T L S (.pointer (some p)) := fun _ _ _ _ a w f _ => by simp [execOp, f.val hx]
theorem y_faddr {t i o off b : Nat} (hf : fof P t i = some off) (hx : ev L x = some (.pointer (some ⟨b, o, none⟩))) : Y P (.fieldAddr t x i) T L S (.pointer (some ⟨b, o + off, none⟩)) := fun _ _ _ _ a w f _ => by
  unfold fof at hf
  split at hf
  · rename_i fs hu
    split at hf
    · rename_i fl hfl
      split at hf
      · rename_i k hz
        simp only [Option.some.injEq] at hf
        subst hf
        have h1 : (Instr.fieldAt t (.pointer (some ⟨b, o, none⟩)) i).run P w = .ok (.pointer (some ⟨b, o + fl.offset, none⟩)) w := by
          simp [Instr.fieldAt, underlying, hu, hfl, Instr.sureAddr, fieldPlace, run_sizeOf hz, Addr.add_lit]
        simp [execOp, f.val hx, h1]
      · cases hf
    · cases hf
  · cases hf
theorem y_iaddr {t e k b o m c : Nat} {i : Int} {ki : IntKind} (ht : P.underlying t = some (.slice e)) (hz : szf P e = some k) (hx : ev L x = some (.slice (some ⟨b, o, none⟩) m c)) (hy : ev L y = some (.int ki i))
    (h0 : 0 ≤ i) (h1 : i < m) : Y P (.indexAddr t x y) T L S (.pointer (some ⟨b, o + i.toNat * k, none⟩)) := fun _ _ _ _ a w f _ => by
  have h2 : (Instr.indexAt t (.slice (some ⟨b, o, none⟩) m c) (.int ki i)).run P w = .ok (.pointer (some ⟨b, o + i.toNat * k, none⟩)) w := by
    simp [Instr.indexAt, asIntOf, underlying, ht, h0, h1, run_sizeOf hz, Addr.add_lit]
  simp [execOp, f.val hx, f.val hy, h2]
theorem y_iaddr_arr {t e k b o m : Nat} {i : Int} {ki : IntKind} (ht : P.underlying t = some (.array m e)) (hz : szf P e = some k) (hx : ev L x = some (.pointer (some ⟨b, o, none⟩))) (hy : ev L y = some (.int ki i))
    (h0 : 0 ≤ i) (h1 : i < m) : Y P (.indexAddr t x y) T L S (.pointer (some ⟨b, o + i.toNat * k, none⟩)) := fun _ _ _ _ a w f _ => by
  have h2 : (Instr.indexAt t (.pointer (some ⟨b, o, none⟩)) (.int ki i)).run P w = .ok (.pointer (some ⟨b, o + i.toNat * k, none⟩)) w := by
    simp [Instr.indexAt, asIntOf, Instr.sureAddr, underlying, ht, h0, h1, run_sizeOf hz, Addr.add_lit]
  simp [execOp, f.val hx, f.val hy, h2]
/-- An element of an array that is a value. -/
theorem y_aindex {t e m : Nat} {i : Int} {ki : IntKind} {vs : List Value} (ht : P.underlying t = some (.array m e)) (hz : szf P e = some 1) (ha : agf P e = some false) (hx : ev L x = some (.agg vs.toArray)) (hy : ev L y = some (.int ki i))
    (h0 : 0 ≤ i) (h1 : i < m) (hv : vs[i.toNat]? = some v) : Y P (.index t x y) T L S v := fun _ _ _ _ a w f _ => by
  have h2 : (Instr.index t (.agg vs.toArray) (.int ki i)).run P w = .ok v w := by
    simp [Instr.index, asIntOf, underlying, ht, h0, h1, run_sizeOf hz, part, run_isAgg ha, hv]
  simp [execOp, f.val hx, f.val hy, h2]
/-- A field of a struct that is a value: of one cell, or a struct in it. -/
def fvf (P : Program) (t : TypeId) (i : Nat) : Option (Nat × Bool × Nat) :=
  match P.underlying t with
  | some (.struct fs) => match fs[i]? with
    | some f => match agf P f.type, szf P f.type with | some b, some k => some (f.offset, b, k) | _, _ => none
    | none => none
  | _ => none
theorem y_field {t i off k : Nat} {vs : List Value} (hf : fvf P t i = some (off, false, k)) (hx : ev L x = some (.agg vs.toArray)) (hv : vs[off]? = some v) : Y P (.field t x i) T L S v := fun _ _ _ _ a w f _ => by
  unfold fvf at hf
  split at hf
  · rename_i fs hu
    split at hf
    · rename_i fl hfl
      split at hf
      · rename_i b k' hb hz
        simp only [Option.some.injEq, Prod.mk.injEq] at hf
        obtain ⟨rfl, rfl, rfl⟩ := hf
        have h1 : (Instr.field t (.agg vs.toArray) i).run P w = .ok v w := by
          simp [Instr.field, underlying, hu, hfl, asAgg, part, run_isAgg hb, hv]
        simp [execOp, f.val hx, h1]
      · cases hf
    · cases hf
  · cases hf
theorem y_fieldA {t i off k : Nat} {vs us : List Value} (hf : fvf P t i = some (off, true, k)) (hx : ev L x = some (.agg vs.toArray)) (hv : (vs.drop off).take k = us) : Y P (.field t x i) T L S (.agg us.toArray) := fun _ _ _ _ a w f _ => by
  unfold fvf at hf
  split at hf
  · rename_i fs hu
    split at hf
    · rename_i fl hfl
      split at hf
      · rename_i b k' hb hz
        simp only [Option.some.injEq, Prod.mk.injEq] at hf
        obtain ⟨rfl, rfl, rfl⟩ := hf
        subst hv
        have h1 : (Instr.field t (.agg vs.toArray) i).run P w = .ok (.agg ((vs.drop fl.offset).take k').toArray) w := by
          simp [Instr.field, underlying, hu, hfl, asAgg, part, run_isAgg hb, run_sizeOf hz, List.extract_eq_take_drop]
        simp [execOp, f.val hx, h1]
      · cases hf
    · cases hf
  · cases hf

/-! ### Structs and arrays that are built -/
def plc (P : Program) (t : TypeId) : Option (List (Nat × Nat)) :=
  match P.underlying t with
  | some (.struct fs) => fs.toList.mapM fun f => (szf P f.type).map fun k => (f.offset, k)
  | _ => none
def evp (L : Sl) : List (Nat × Operand) → Option (List (Nat × Value))
  | [] => some []
  | (i, x) :: ps => match ev L x, evp L ps with
    | some v, some vs => some ((i, v) :: vs)
    | _, _ => none
theorem FrOk.parts {a : Act} (h : FrOk L a) : ∀ {xs : List (Nat × Operand)} {vs : List (Nat × Value)}, evp L xs = some vs → xs.map (fun p => (p.1, a.eval p.2)) = vs
  | [], vs, e => by simp only [evp, Option.some.injEq] at e; subst e; rfl
  | (i, x) :: ps, vs, e => by
    simp only [evp] at e
    split at e
    · rename_i v us hv hus
      simp only [Option.some.injEq] at e
      subst e
      simp only [List.map_cons, h.val hv, h.parts hus]
    · cases e
def cellsL : Value → List Value
  | .agg cs => cs.toList
  | v => [v]
theorem cellsL_eq (v : Value) : v.cells = (cellsL v).toArray := by cases v <;> simp [Value.cells, cellsL]
def setAt : List Value → Nat → List Value → List Value
  | l, _, [] => l
  | l, o, v :: vs => setAt (l.set o v) (o + 1) vs
theorem setAt_length : ∀ (vs : List Value) (l : List Value) (o : Nat), (setAt l o vs).length = l.length
  | [], l, o => rfl
  | v :: vs, l, o => by simp [setAt, setAt_length vs]
theorem foldl_setAt : ∀ (vs : List Value) (l : List Value) (o s : Nat), (vs.zipIdx s).foldl (fun cs (p : Value × Nat) => cs.setIfInBounds (o + p.2) p.1) l.toArray = (setAt l (o + s) vs).toArray
  | [], l, o, s => rfl
  | v :: vs, l, o, s => by
    simp only [List.zipIdx_cons, List.foldl_cons, List.setIfInBounds_toArray, setAt]
    rw [foldl_setAt vs (l.set (o + s) v) o (s + 1)]
    rw [Nat.add_assoc]
/-- The cells of a struct, or of a row, with its parts put in. -/
def fillL (place : List (Nat × Nat)) (cs : List Value) : List (Nat × Value) → Option (List Value)
  | [] => some cs
  | (i, v) :: rest => match place[i]? with
    | some (off, size) => bif Nat.beq (cellsL v).length size && Nat.ble (off + (cellsL v).length) cs.length then fillL place (setAt cs off (cellsL v)) rest else none
    | none => none
theorem fillL_eq {place : List (Nat × Nat)} {pf : Nat → Option (Nat × Nat)} : ∀ {ps : List (Nat × Value)} {cs cs' : List Value}, (∀ i p, place[i]? = some p → pf i = some p) → fillL place cs ps = some cs' → Instr.fill pf cs.toArray ps = some cs'.toArray
  | [], cs, cs', _, h => by simp only [fillL, Option.some.injEq] at h; subst h; rfl
  | (i, v) :: rest, cs, cs', hp, h => by
    simp only [fillL] at h
    split at h
    · rename_i off size he
      cases hb : (Nat.beq (cellsL v).length size && Nat.ble (off + (cellsL v).length) cs.length) with
      | false => rw [hb] at h; cases h
      | true =>
        rw [hb] at h
        simp only [Bool.and_eq_true] at hb
        have h1 := Nat.eq_of_beq_eq_true hb.1
        have h2 := Nat.le_of_ble_eq_true hb.2
        have h3 := fillL_eq hp h
        have h4 : ¬ (cs.length < off + (cellsL v).length) := by omega
        have h5 := foldl_setAt (cellsL v) cs off 0
        simp only [Nat.add_zero] at h5
        simp only [Instr.fill, hp i _ he, cellsL_eq, List.size_toArray, h1, bne_self_eq_false, Bool.false_or]
        rw [h1] at h4
        simp only [gt_iff_lt, h4, decide_false, Bool.false_eq_true, if_false]
        rw [← Array.foldl_toList, Array.toList_zipIdx]
        rw [h5]
        simpa using h3
    · cases h
def rowPlaces (m k : Nat) : List (Nat × Nat) := (List.range m).map fun i => (i * k, k)
def zerosL (m : Nat) (l : List Value) : List Value := match m with | 0 => [] | m + 1 => l ++ zerosL m l
theorem mapM_sizes {fs : List Field} : ∀ {ps : List (Nat × Nat)}, (fs.mapM fun f => (szf P f.type).map fun k => (f.offset, k)) = some ps →
    (fs.mapM (m := Sem) fun f => do pure (f.offset, ← sizeOf f.type)).run P w = .ok ps w := by
  induction fs with
  | nil => intro ps h; simp at h; subst h; simp
  | cons f fs ih =>
    intro ps h
    simp only [List.mapM_cons, Option.bind_eq_bind, Option.bind_eq_some_iff] at h
    obtain ⟨p, hp, qs, hq, h⟩ := h
    simp only [Option.map_eq_some_iff] at hp
    obtain ⟨k, hk, rfl⟩ := hp
    simp at h
    subst h
    simp only [List.mapM_cons, Sem.run_bind, run_sizeOf hk, Result.andThen_ok, Sem.run_pure, ih hq]
theorem y_build {t : Nat} {ps : List (Nat × Nat)} {xs : List (Nat × Operand)} {vs : List (Nat × Value)} {zs cs : List Value} (hp : plc P t = some ps) (hz : zrf P t = some (.agg zs.toArray)) (hx : evp L xs = some vs)
    (hc' : fillL ps zs vs = some cs) : Y P (.build t xs.toArray) T L S (.agg cs.toArray) := fun d pos af gd a w f _ => by
  have hc : Instr.fill (ps.toArray[·]?) zs.toArray vs = some cs.toArray := fillL_eq (fun i p h => by simpa using h) hc'
  unfold plc at hp
  split at hp
  · rename_i fs hu
    have h0 : (xs.toArray.map fun p => (p.1, a.eval p.2)) = vs.toArray := by rw [List.map_toArray, f.parts hx]
    have h1 : (Instr.build t vs.toArray).run P w = .ok (.agg cs.toArray) w := by
      have hm : (fs.mapM (m := Sem) fun f => do pure (f.offset, ← sizeOf f.type)).run P w = .ok ps.toArray w := by
        have := mapM_sizes (P := P) (w := w) hp
        rw [Array.mapM_eq_mapM_toList]
        simp only [Sem.run_map, this, Result.andThen_ok]
      simp only [Instr.build, Sem.run_bind, run_zero hz, Result.andThen_ok, Value.cells, underlying, run_program, hu]
      simp only [Sem.run_pure, Result.andThen_ok, Sem.run_bind, hm]
      rw [hc]
      rfl
    have h2 : (execOp a.eval ⟨d, .build t xs.toArray, T, pos, af, gd⟩ : Sem Next) = (do pure (.value (← Instr.build t (xs.toArray.map fun p => (p.1, a.eval p.2))))) := rfl
    rw [h2, h0]
    simp [h1]
  · cases hp

theorem zeros_len (m : Nat) (l : List Value) : (zerosL m l).length = m * l.length := by
  induction m with
  | zero => simp [zerosL]
  | succ m ih => simp only [zerosL, List.length_append, ih, Nat.add_mul]; omega
theorem zeros_get (m : Nat) (l : List Value) : ∀ i, i < m * l.length → (zerosL m l)[i]? = l[i % l.length]? := by
  induction m with
  | zero => intro i h; simp at h
  | succ m ih =>
    intro i h
    simp only [zerosL]
    by_cases hi : i < l.length
    · rw [List.getElem?_append_left hi, Nat.mod_eq_of_lt hi]
    · rw [List.getElem?_append_right (by omega), ih (i - l.length) (by rw [Nat.add_mul] at h; omega)]
      rw [← Nat.mod_eq_sub_mod (by omega)]
theorem zeros_eq (m : Nat) (l : List Value) (k : Nat) (hk : l.length = k) : (Array.range (m * k)).map (l.toArray[· % l.toArray.size]!) = (zerosL m l).toArray := by
  subst hk
  apply Array.ext
  · simp [zeros_len]
  · intro i h1 h2
    simp only [Array.size_map, Array.size_range] at h1
    have h3 : 0 < l.length := by rcases Nat.eq_zero_or_pos l.length with h | h; (rw [h] at h1; simp at h1); exact h
    have h4 := zeros_get m l i h1
    have h5 : i % l.length < l.length := Nat.mod_lt _ h3
    simp only [Array.getElem_map, Array.getElem_range, List.size_toArray, List.getElem_toArray]
    rw [List.getElem?_eq_getElem h5, List.getElem?_eq_getElem (by simpa using h2)] at h4
    simp only [Option.some.injEq] at h4
    rw [h4]
    simp [h5]
/-! ### New blocks -/
theorem put_eq (L : Sl) (d : Option Nat) (v : Value) : putL L d v = match d with | some d => (d, v) :: L | none => L := by cases d <;> rfl
theorem run_new (P : Program) (w : World) (o : Obj) : (newObj o).run P w = .ok w.heap.size (w.alloc o) := rfl
theorem ef_box {t d : Nat} {l : List Value} (hx : ev L x = some v) (hc : v.cells = l.toArray) (hd : Nat.blt d n = true) :
    Ef P n Q (some d) (.box t x) T L G I R M (fun L' I' M' => ∃ b, L' = (d, .pointer (some ⟨b, 0, none⟩)) :: L ∧ I' = I ∧ M' = M ++ [cl b t l]) := by
  intro pos af gd a w next s hk
  have hrun : (execOp a.eval ⟨some d, .box t x, T, pos, af, gd⟩).run P w = .ok (.value (.pointer (some ⟨w.heap.size, 0, none⟩))) (w.alloc (.cells l.toArray t (0, 0))) := by
    simp [execOp, s.fr.val hx, Instr.box, newVar, newRow, hc]
  unfold Oper.wp
  rw [hrun]
  exact hk _ I _ ⟨w.heap.size, rfl, rfl, rfl⟩ _ _ ((s.world s.sat.alloc_cl).put hd _)
theorem ef_alloc {t d : Nat} {zv : Value} {l : List Value} (hz : zrf P t = some zv) (hc : zv.cells = l.toArray) (hd : Nat.blt d n = true) :
    Ef P n Q (some d) (.alloc t) T L G I R M (fun L' I' M' => ∃ b, L' = (d, .pointer (some ⟨b, 0, none⟩)) :: L ∧ I' = I ∧ M' = M ++ [cl b t l]) := by
  intro pos af gd a w next s hk
  have hrun : (execOp a.eval ⟨some d, .alloc t, T, pos, af, gd⟩).run P w = .ok (.value (.pointer (some ⟨w.heap.size, 0, none⟩))) (w.alloc (.cells l.toArray t (0, 0))) := by
    simp [execOp, Instr.alloc, newVar, newRow, hc, run_zero hz]
  unfold Oper.wp
  rw [hrun]
  exact hk _ I _ ⟨w.heap.size, rfl, rfl, rfl⟩ _ _ ((s.world s.sat.alloc_cl).put hd _)
/-- A slice that is written out: elements of one cell, one behind the other. -/
theorem ef_buildSlice {t e d m k : Nat} {xs : List (Nat × Operand)} {vs : List (Nat × Value)} {zv : Value} {cs : List Value} (ht : P.underlying t = some (.slice e)) (hk' : szf P e = some k) (hz : zrf P e = some zv) (hx : evp L xs = some vs)
    (hm : Nat.ble (m * k) (2 ^ 24) = true) (hm0 : (Nat.beq (m * k) 0) = false)
    {zl : List Value} (hzl : zv.cells = zl.toArray) (hzk : zl.length = k) (hc' : fillL (rowPlaces m k) (zerosL m zl) vs = some cs) (hd : Nat.blt d n = true) :
    Ef P n Q (some d) (.buildSlice t m xs.toArray) T L G I R M (fun L' I' M' => ∃ b, L' = (d, .slice (some ⟨b, 0, none⟩) m m) :: L ∧ I' = I ∧ M' = M ++ [cl b e cs]) := by
  intro pos af gd a w next s hk
  have h0 : (xs.toArray.map fun p => (p.1, a.eval p.2)) = vs.toArray := by rw [List.map_toArray, s.fr.parts hx]
  have hc : Instr.fill (fun i => some (i * k, k)) ((Array.range (m * k)).map (zv.cells[· % zv.cells.size]!)) vs = some cs.toArray := by
    rw [hzl, zeros_eq m zl k hzk]
    refine fillL_eq (fun i p h => ?_) hc'
    simp only [rowPlaces, List.getElem?_map, Option.map_eq_some_iff] at h
    obtain ⟨j, hj, rfl⟩ := h
    rw [List.getElem?_eq_some_iff] at hj
    obtain ⟨h1, h2⟩ := hj
    simp at h2
    subst h2
    rfl
  have hle : ¬ 2 ^ 24 < m * k := Nat.not_lt.2 (Nat.le_of_ble_eq_true hm)
  have hne : ¬ m * k = 0 := fun e => by rw [e] at hm0; cases hm0
  have h1 : (Instr.buildSlice t m vs.toArray).run P w = .ok (.slice (some ⟨w.heap.size, 0, none⟩) m m) (w.alloc (.cells cs.toArray e (0, 0))) := by
    simp only [Instr.buildSlice, Sem.run_bind, underlying, run_program, Result.andThen_ok, ht, Sem.run_pure, run_sizeOf hk', hle, if_false, hne, run_zero hz, Sem.run_ite, hc, newRow, run_new, gt_iff_lt]
  have h2 : (execOp a.eval ⟨some d, .buildSlice t m xs.toArray, T, pos, af, gd⟩ : Sem Next) = (do pure (.value (← Instr.buildSlice t m (xs.toArray.map fun p => (p.1, a.eval p.2))))) := rfl
  have hrun : (execOp a.eval ⟨some d, .buildSlice t m xs.toArray, T, pos, af, gd⟩).run P w = .ok (.value (.slice (some ⟨w.heap.size, 0, none⟩) m m)) (w.alloc (.cells cs.toArray e (0, 0))) := by
    rw [h2, h0]; simp [h1]
  unfold Oper.wp
  rw [hrun]
  exact hk _ I _ ⟨w.heap.size, rfl, rfl, rfl⟩ _ _ ((s.world s.sat.alloc_cl).put hd _)

/-! ### Stores -/
def one1 : Value → Bool | .agg _ => false | .tuple _ => false | _ => true
theorem cells_one1 {v : Value} (h : one1 v = true) : v.cells = #[v] := by cases v <;> first | rfl | cases h
theorem set_world {b o : Nat} {t : TypeId} {l : List Value} {fz : Nat × Nat} (hb : w.heap[b]? = some (.cells l.toArray t fz)) : (w.setCell ⟨b, o, none⟩ v).heap[b]? = some (.cells (l.set o v).toArray t fz) := by
  simp [World.setCell, Array.getElem?_modify, hb]
theorem run_store1 {b o : Nat} {t : TypeId} {l : List Value} {fz : Nat × Nat} (hv : one1 v = true) (hb : w.heap[b]? = some (.cells l.toArray t fz)) (hf : okfz fz l.length) (ho : o < l.length) :
    (store ⟨b, o, none⟩ v).run P w = .ok () (w.setCell ⟨b, o, none⟩ v) := by
  have hc : w.cell? ⟨b, o, none⟩ = some l[o] := by rw [cell_of hb, List.getElem?_eq_getElem ho]
  have hz : w.frozen? ⟨b, o, none⟩ = false := by
    simp only [World.frozen?, hb, Bool.and_eq_false_iff, decide_eq_false_iff_not, Nat.not_le, Nat.not_lt]
    rcases hf with h | h
    · exact .inl (by omega)
    · subst h; exact .inr (Nat.zero_le _)
  cases v <;> first | (cases hv; done) | simp [store, Sem.run, hc, hz]
/-- A store into a block of its own: it goes through, and what is owned is as it should be. -/
theorem store_own {i b o : Nat} {t : TypeId} {l : List Value} (s : Sat G I R M w) (hv : one1 v = true) (hM : M[i]? = some (cl b t l)) (ho : o < l.length) :
    (store ⟨b, o, none⟩ v).run P w = .ok () (w.setCell ⟨b, o, none⟩ v) ∧ Sat G I R (M.set i (cl b t (l.set o v))) (w.setCell ⟨b, o, none⟩ v) := by
  obtain ⟨fz, hf, s1⟩ := s.cl hM
  have hb := s1.block (get_set hM)
  refine ⟨run_store1 hv hb hf ho, ?_⟩
  have s2 := s1.write (w' := w.setCell ⟨b, o, none⟩ v) (get_set hM) rfl rfl rfl (set_world hb) fun j hj _ => by
    simp [World.setCell, Array.getElem?_modify, Ne.symm hj]
  have s3 := s2.cl_back (get_set (get_set hM)) (by simpa using hf)
  simpa [List.set_set] using s3
theorem ef_store {t b o i : Nat} {t' : TypeId} {l : List Value} (hz : szf P t = some 1) (hx : ev L x = some (.pointer (some ⟨b, o, none⟩))) (hy : ev L y = some v) (hv : one1 v = true)
    (hM : M[i]? = some (cl b t' l)) (ho : Nat.blt o l.length = true) :
    Ef P n Q none (.store t x y) T L G I R M (fun L' I' M' => L' = L ∧ I' = I ∧ M' = M.set i (cl b t' (l.set o v))) := by
  intro pos af gd a w next s hk
  have h1 : (Instr.storeAt t (.pointer (some ⟨b, o, none⟩)) v).run P w = .ok () (w.setCell ⟨b, o, none⟩ v) := by
    have := (store_own (P := P) s.sat hv hM (Nat.le_of_ble_eq_true ho)).1
    simp only [Instr.storeAt, Instr.sureAddr, storeVar, run_sizeOf hz, cells_one1 hv, Sem.run_bind, Sem.run_pure, Result.andThen_ok]
    simp [storeCells, this, Addr.add_zero']
  unfold Oper.wp
  have hrun : (execOp a.eval ⟨none, .store t x y, T, pos, af, gd⟩).run P w = .ok .skip (w.setCell ⟨b, o, none⟩ v) := by
    simp [execOp, s.fr.val hx, s.fr.val hy, h1]
  rw [hrun]
  exact hk _ I _ ⟨rfl, rfl, rfl⟩ _ _ (s.world (store_own (P := P) s.sat hv hM (Nat.le_of_ble_eq_true ho)).2)
theorem list_set_same : ∀ {M : List Ent} {i : Nat} {e : Ent}, M[i]? = some e → M.set i e = M
  | x :: M, 0, e, h => by simp at h; subst h; rfl
  | x :: M, i + 1, e, h => by rw [List.set_cons_succ, list_set_same (by simpa using h)]
theorem run_storeCells {b : Nat} {t' : TypeId} {i : Nat} : ∀ (vs : List Value) (l : List Value) (M : List Ent) (o k : Nat) (w : World), (∀ u ∈ vs, one1 u = true) → M[i]? = some (cl b t' l) → Sat G I R M w → o + k + vs.length ≤ l.length →
    ∃ w', (storeCells ⟨b, o, none⟩ vs k).run P w = .ok () w' ∧ Sat G I R (M.set i (cl b t' (setAt l (o + k) vs))) w'
  | [], l, M, o, k, w, _, hM, s, _ => ⟨w, by simp [storeCells], by simp only [setAt]; rw [list_set_same hM]; exact s⟩
  | v :: vs, l, M, o, k, w, h, hM, s, hl => by
    simp only [List.length_cons] at hl
    obtain ⟨h1, s1⟩ := store_own (P := P) (o := o + k) s (h v (by simp)) hM (by omega)
    obtain ⟨w', h2, s2⟩ := run_storeCells vs (l.set (o + k) v) (M.set i (cl b t' (l.set (o + k) v))) o (k + 1) _ (fun u hu => h u (by simp [hu])) (by rw [List.getElem?_set_self (List.getElem?_eq_some_iff.1 hM).1]) s1 (by simp; omega)
    refine ⟨w', ?_, ?_⟩
    · simp only [storeCells, Sem.run_bind, Addr.add_lit, h1, Result.andThen_ok, h2]
    · rw [List.set_set] at s2; exact s2
theorem ef_storeA {t b o i k : Nat} {t' : TypeId} {l vs : List Value} (hz : szf P t = some k) (hx : ev L x = some (.pointer (some ⟨b, o, none⟩))) (hy : ev L y = some (.agg vs.toArray)) (hk : vs.length = k) (hv : vs.all one1 = true)
    (hM : M[i]? = some (cl b t' l)) (ho : Nat.ble (o + vs.length) l.length = true) :
    Ef P n Q none (.store t x y) T L G I R M (fun L' I' M' => L' = L ∧ I' = I ∧ M' = M.set i (cl b t' (setAt l o vs))) := by
  intro pos af gd a w next s hk'
  obtain ⟨w', h2, s2⟩ := run_storeCells (P := P) vs l M o 0 w (by simpa using hv) hM s.sat (by have := Nat.le_of_ble_eq_true ho; omega)
  have h1 : (Instr.storeAt t (.pointer (some ⟨b, o, none⟩)) (.agg vs.toArray)).run P w = .ok () w' := by
    simp only [Instr.storeAt, Instr.sureAddr, storeVar, run_sizeOf hz, Value.cells, Sem.run_bind, Sem.run_pure, Result.andThen_ok]
    simp [hk, h2]
  unfold Oper.wp
  have hrun : (execOp a.eval ⟨none, .store t x y, T, pos, af, gd⟩).run P w = .ok .skip w' := by
    simp [execOp, s.fr.val hx, s.fr.val hy, h1]
  rw [hrun]
  exact hk' _ I _ ⟨rfl, rfl, rfl⟩ _ _ (s.world s2)

end
end Go.Proofs.YtnccebppgmnmfaaS
