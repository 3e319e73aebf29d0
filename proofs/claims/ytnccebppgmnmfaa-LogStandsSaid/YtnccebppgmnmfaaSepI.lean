/- What is owned becomes known for good; walks go on. Plain theorems. -/
import Derived.Test.YtnccebppgmnmfaaSepQ
set_option linter.unusedVariables false
set_option linter.unusedSimpArgs false
namespace Go.Proofs.YtnccebppgmnmfaaS
open Go.RowKit
section
variable {P : Program} {n : Nat} {ops : Array Oper} {Q : Exit → Act → World → Prop} {G : World} {I R I0 : PH} {M M2 J : List Ent} {L : Sl} {Φ : Value → PH → List Ent → Prop} {fn : Func} {v v1 v2 v3 : Value}
variable {S : World → Prop} {T : TypeId} {x y z : Operand}
theorem Sat.frz {w : World} {i e k nn : Nat} {xs : List Value} (s : Sat G I R M w) (hM : M[i]? = some (osl e k v nn xs)) :
    ∃ I' A c, I.le I' ∧ v = .slice A nn c ∧ Rsl I' k A nn xs ∧ Sat G I' R (M.eraseIdx i) w := by
  obtain ⟨kk, I', he, h1, h2, s'⟩ := s.freeze hM
  obtain ⟨A, c, hv, hR⟩ := rsl_osl (v := v) (e := e) (k := k) (nn := nn) (xs := xs) (I := I') (hl := kk) ⟨kk, .emp, he, rfl, PH.disj_emp _, (PH.union_emp _).symm⟩ h2
  exact ⟨I', A, c, h1, hv, hR, s'⟩
theorem gl_frz {l : List Oper} (i : Nat) {e k nn : Nat} {xs : List Value} (hM : M[i]? = some (osl e k v nn xs)) (h : ∀ I' A c, I.le I' → v = .slice A nn c → Rsl I' k A nn xs → GL P n ops Q l L G I' R (M.eraseIdx i)) : GL P n ops Q l L G I R M := fun a w s => by
  obtain ⟨I', A, c, h1, h2, h3, s'⟩ := s.sat.frz hM
  exact h I' A c h1 h2 h3 a w (s.world s')
theorem gc_frz {l : Code} (i : Nat) {e k nn : Nat} {xs : List Value} (hM : M[i]? = some (osl e k v nn xs)) (h : ∀ I' A c, I.le I' → v = .slice A nn c → Rsl I' k A nn xs → GC P n Q l L G I' R (M.eraseIdx i)) : GC P n Q l L G I R M := fun a w s => by
  obtain ⟨I', A, c, h1, h2, h3, s'⟩ := s.sat.frz hM
  exact h I' A c h1 h2 h3 a w (s.world s')
theorem sat_frzc {w : World} {i e b : Nat} {xs : List Value} (s : Sat G I R M w) (hM : M[i]? = some (cl b e xs)) : ∃ I' fz, I.le I' ∧ I' b = some (.cells xs.toArray e fz) ∧ Sat G I' R (M.eraseIdx i) w := by
  obtain ⟨kk, I', ⟨fz, _, rfl⟩, h1, h2, s'⟩ := s.freeze hM
  exact ⟨I', fz, h1, h2 _ _ (PH.single_at _ _), s'⟩
theorem gl_frzc {l : List Oper} (i : Nat) {e b : Nat} {xs : List Value} (hM : M[i]? = some (cl b e xs)) (h : ∀ I' fz, I.le I' → I' b = some (.cells xs.toArray e fz) → GL P n ops Q l L G I' R (M.eraseIdx i)) : GL P n ops Q l L G I R M := fun a w s => by
  obtain ⟨I', fz, h1, h2, s'⟩ := sat_frzc s.sat hM
  exact h I' fz h1 h2 a w (s.world s')
theorem rsl_known {I : PH} {b e k nn : Nat} {xs : List Value} {fz : Nat × Nat} (h : I b = some (.cells xs.toArray e fz)) (hx : xs.length = nn * k) : Rsl I k (some ⟨b, 0, none⟩) nn xs :=
  ⟨hx, fun _ => ⟨b, 0, e, fz, xs, rfl, h, fun j u hj => by rw [Nat.zero_add]; exact hj⟩⟩
/-- An entry is left alone: what is known shrinks back. -/
theorem gq_leI {e : Exit} {I' : PH} (h : I.le I') (hq : GQ Q e n L G I R M) : GQ Q e n L G I' R M := fun a w s => hq a w (s.world (s.sat.leI h))
theorem gl_drop {l : List Oper} (i : Nat) (h : GL P n ops Q l L G I R (M.eraseIdx i)) : GL P n ops Q l L G I R M := fun a w s => h a w (s.world (s.sat.drop i))
/-- A slice of strings, bytes, values: the address of an element, its value. -/
theorem Rsl.at {k nn : Nat} {A : Option Addr} {xs : List Value} (h : Rsl I k A nn xs) {i : Int} {u : Value} (h0 : 0 ≤ i) (h1 : i < nn) : ∃ b o t fz l, A = some ⟨b, o, none⟩ ∧ I b = some (.cells (List.toArray l) t fz) ∧ ∀ off u, xs[i.toNat * k + off]? = some u → l[o + i.toNat * k + off]? = some u := by
  obtain ⟨b, o, t, fz, l, a, c, d⟩ := h.pos (by omega)
  exact ⟨b, o, t, fz, l, a, c, fun off u hu => by rw [Nat.add_assoc]; exact d _ _ hu⟩
/-- A slice of its values, to be appended to. -/
theorem ef_buildSliceO {t e d m k : Nat} {xs : List (Nat × Operand)} {vs : List (Nat × Value)} {zv : Value} {cs : List Value} (ht : P.underlying t = some (.slice e)) (hk' : szf P e = some k) (hz : zrf P e = some zv) (hx : evp L xs = some vs)
    (hm : Nat.ble (m * k) (2 ^ 24) = true) (hm0 : (Nat.beq (m * k) 0) = false)
    {zl : List Value} (hzl : zv.cells = zl.toArray) (hzk : zl.length = k) (hc' : fillL (rowPlaces m k) (zerosL m zl) vs = some cs) (hcl : cs.length = m * k) (hml : Nat.ble m maxLen = true) (hd : Nat.blt d n = true) :
    Ef P n Q (some d) (.buildSlice t m xs.toArray) T L G I R M (fun L' I' M' => ∃ v, L' = (d, v) :: L ∧ I' = I ∧ M' = M ++ [osl e k v m cs]) := by
  intro pos af gd a w next s hk
  have h0 : (xs.toArray.map fun p => (p.1, a.eval p.2)) = vs.toArray := by rw [List.map_toArray, s.fr.parts hx]
  have hc : Instr.fill (fun i => some (i * k, k)) ((Array.range (m * k)).map (zv.cells[· % zv.cells.size]!)) vs = some cs.toArray := by
    rw [hzl, zeros_eq m zl k hzk]
    refine fillL_eq (fun i p h => ?_) hc'
    simp only [rowPlaces, List.getElem?_map, Option.map_eq_some_iff] at h
    obtain ⟨j, hj, rfl⟩ := h
    rw [List.getElem?_eq_some_iff] at hj
    obtain ⟨h1, h2⟩ := hj
    simp at h2
    subst h2
    rfl
  have hle : ¬ 2 ^ 24 < m * k := Nat.not_lt.2 (Nat.le_of_ble_eq_true hm)
  have hne : ¬ m * k = 0 := fun e => by rw [e] at hm0; cases hm0
  have h1 : (Instr.buildSlice t m vs.toArray).run P w = .ok (.slice (some ⟨w.heap.size, 0, none⟩) m m) (w.alloc (.cells cs.toArray e (0, 0))) := by
    simp only [Instr.buildSlice, Sem.run_bind, underlying, run_program, Result.andThen_ok, ht, Sem.run_pure, run_sizeOf hk', hle, if_false, hne, run_zero hz, Sem.run_ite, hc, newRow, run_new, gt_iff_lt]
  have h2 : (execOp a.eval ⟨some d, .buildSlice t m xs.toArray, T, pos, af, gd⟩ : Sem Next) = (do pure (.value (← Instr.buildSlice t m (xs.toArray.map fun p => (p.1, a.eval p.2))))) := rfl
  have hrun : (execOp a.eval ⟨some d, .buildSlice t m xs.toArray, T, pos, af, gd⟩).run P w = .ok (.value (.slice (some ⟨w.heap.size, 0, none⟩) m m)) (w.alloc (.cells cs.toArray e (0, 0))) := by
    rw [h2, h0]; simp [h1]
  unfold Oper.wp
  rw [hrun]
  have s1 := s.sat.alloc (.cells cs.toArray e (0, 0))
  have s2 := s1.weaken (i := M.length) (e' := osl e k (.slice (some ⟨w.heap.size, 0, none⟩) m m) m cs) (by simp : (M ++ [blk w.heap.size (.cells cs.toArray e (0, 0))])[M.length]? = some (blk w.heap.size (.cells cs.toArray e (0, 0)))) (oslnew hcl (Nat.le_refl _) (Nat.le_of_ble_eq_true hml) (by simp [hcl]) (by rw [List.take_of_length_le (by simp [hcl])]))
  rw [List.set_append_right _ _ (Nat.le_refl _), Nat.sub_self] at s2
  exact hk _ I _ ⟨_, rfl, rfl, rfl⟩ _ _ ((s.world s2).put hd _)
theorem y_buildA {t e m k : Nat} {xs : List (Nat × Operand)} {vs : List (Nat × Value)} {zs cs : List Value} (ht : P.underlying t = some (.array m e)) (hs : szf P e = some k) (hz : zrf P t = some (.agg zs.toArray)) (hx : evp L xs = some vs)
    (hc' : fillL (rowPlaces m k) zs vs = some cs) : Y P (.build t xs.toArray) T L S (.agg cs.toArray) := fun d pos af gd a w f _ => by
  have hc : Instr.fill (fun i => some (i * k, k)) zs.toArray vs = some cs.toArray := fillL_eq (fun i p h => by
    simp only [rowPlaces, List.getElem?_map, Option.map_eq_some_iff] at h
    obtain ⟨j, hj, rfl⟩ := h
    rw [List.getElem?_eq_some_iff] at hj
    obtain ⟨h1, h2⟩ := hj
    simp at h2
    subst h2
    rfl) hc'
  have h0 : (xs.toArray.map fun p => (p.1, a.eval p.2)) = vs.toArray := by rw [List.map_toArray, f.parts hx]
  have h1 : (Instr.build t vs.toArray).run P w = .ok (.agg cs.toArray) w := by
    simp only [Instr.build, Sem.run_bind, run_zero hz, Result.andThen_ok, Value.cells, underlying, run_program, ht]
    simp only [Sem.run_pure, Result.andThen_ok, Sem.run_bind, run_sizeOf hs]
    rw [hc]
    rfl
  have h2 : (execOp a.eval ⟨d, .build t xs.toArray, T, pos, af, gd⟩ : Sem Next) = (do pure (.value (← Instr.build t (xs.toArray.map fun p => (p.1, a.eval p.2))))) := rfl
  rw [h2, h0]
  simp [h1]
theorem Sat.unosl {w : World} {i e k nn : Nat} {xs : List Value} (s : Sat G I R M w) (hM : M[i]? = some (osl e k v nn xs)) (hn : 0 < nn) :
    ∃ g cap junk, v = .slice (some ⟨g, 0, none⟩) nn cap ∧ Sat G I R (M.set i (YtnccebppgmnmfaaS.cl g e (xs ++ junk))) w := by
  obtain ⟨k', ⟨hl, h⟩, hk⟩ := s.open hM
  rcases h with ⟨_, h, _⟩ | ⟨g, cap, cur, hv, h1, h2, h3, h4, h5⟩
  · omega
  · refine ⟨g, cap, cur.toList.drop (nn * k), hv, hk _ ⟨(0, 0), .inr rfl, ?_⟩⟩
    rw [h5, ← h4, List.take_append_drop, Array.toArray_toList]
theorem gl_unosl {l : List Oper} (i : Nat) {e k nn : Nat} {xs : List Value} (hM : M[i]? = some (osl e k v nn xs)) (hn : 0 < nn) (h : ∀ g cap junk, v = .slice (some ⟨g, 0, none⟩) nn cap → GL P n ops Q l L G I R (M.set i (cl g e (xs ++ junk)))) : GL P n ops Q l L G I R M := fun a w s => by
  obtain ⟨g, cap, junk, hv, s'⟩ := s.sat.unosl hM hn
  exact h g cap junk hv a w (s.world s')
theorem gc_unosl {l : Code} (i : Nat) {e k nn : Nat} {xs : List Value} (hM : M[i]? = some (osl e k v nn xs)) (hn : 0 < nn) (h : ∀ g cap junk, v = .slice (some ⟨g, 0, none⟩) nn cap → GC P n Q l L G I R (M.set i (cl g e (xs ++ junk)))) : GC P n Q l L G I R M := fun a w s => by
  obtain ⟨g, cap, junk, hv, s'⟩ := s.sat.unosl hM hn
  exact h g cap junk hv a w (s.world s')
/-! ### Values of interface types that are compared -/
def cmpf (P : Program) (t : TypeId) : Option Bool := (P.info? t).map (·.comparable)
theorem run_eqin_bool {t : TypeId} {w : World} (d : Nat) (p q : Bool) (ht : P.underlying t = some .bool) : (Op.equalIn (d + 1) t (.bool p) (.bool q)).run P w = .ok (p == q) w := by
  simp [Op.equalIn, underlying, ht]
theorem run_eqin_int {t : TypeId} {k k' : IntKind} {w : World} (d : Nat) (p q : Int) (ht : P.underlying t = some (.int k')) : (Op.equalIn (d + 1) t (.int k p) (.int k q)).run P w = .ok (p == q) w := by
  simp [Op.equalIn, underlying, ht]
theorem run_eqin_string {t : TypeId} {w : World} (d : Nat) (p q : ByteArray) (ht : P.underlying t = some .string) : (Op.equalIn (d + 1) t (.string p) (.string q)).run P w = .ok (p == q) w := by
  simp [Op.equalIn, underlying, ht]
theorem run_eqin_iface {t u : TypeId} {ms : Array (String × TypeId)} {w : World} {b : Bool} (d : Nat) (ht : P.underlying t = some (.interface ms)) (hc : cmpf P u = some true) (h : (Op.equalIn d u v1 v2).run P w = .ok b w) :
    (Op.equalIn (d + 1) t (.iface u v1) (.iface u v2)).run P w = .ok b w := by
  unfold cmpf at hc
  cases hi : P.info? u with
  | none => rw [hi] at hc; cases hc
  | some i =>
    rw [hi] at hc
    simp only [Option.map_some, Option.some.injEq] at hc
    simp [Op.equalIn, underlying, ht, typeInfo, hi, hc, h]
theorem run_eqin_other {t u u' : TypeId} {ms : Array (String × TypeId)} {w : World} (d : Nat) (ht : P.underlying t = some (.interface ms)) (hu : u ≠ u') :
    (Op.equalIn (d + 1) t (.iface u v1) (.iface u' v2)).run P w = .ok false w := by
  simp [Op.equalIn, underlying, ht, hu]
theorem run_eqin_struct1 {t : TypeId} {f : Field} {w : World} {b : Bool} {x y : Value} (d : Nat) (ht : P.underlying t = some (.struct #[f])) (hs : P.stoodInHeld t = false) (hn : f.name ≠ "_") (ho : f.offset = 0) (ha : agf P f.type = some false) (h : (Op.equalIn d f.type x y).run P w = .ok b w) :
    (Op.equalIn (d + 1) t (.agg #[x]) (.agg #[y])).run P w = .ok b w := by
  have hp : ∀ z : Value, (part f.type #[z] f.offset).run P w = .ok z w := fun z => by simp [part, run_isAgg ha, ho]
  cases b <;> simp [Op.equalIn, underlying, ht, hs, hn, hp, h]
def ifc : Value → Bool
  | .nilIface => true
  | .iface _ _ => true
  | _ => false
theorem run_guard_nn {t : TypeId} {w : World} (d : Nat) (ht : P.underlying t = some (.interface #[])) : (Op.eqGuardIn (d + 1) t .nilIface .nilIface).run P w = .ok false w := by
  simp [Op.eqGuardIn, underlying, ht]
theorem guard_ok {t : TypeId} {op : BinOp} {x y : Operand} {w : World} (ht : P.underlying t = some (.interface #[])) (h1 : ifc v1 = true) (h2 : ifc v2 = true) : (eqGuard op t x y v1 v2).run P w = .ok () w := by
  have hn' : (Op.eqGuardIn Op.maxDepth t .nilIface .nilIface).run P w = .ok false w := run_guard_nn 9999 ht
  cases v1 <;> simp only [ifc, Bool.false_eq_true] at h1 <;> cases v2 <;> simp only [ifc, Bool.false_eq_true] at h2 <;> simp [eqGuard]
  · split
    all_goals first | (intros; rw [hn']; rfl) | (simp; intros; rw [hn']; rfl) | simp
  all_goals (split <;> simp)
theorem y_ineq {t u : TypeId} {b : Bool} {x y : Operand} (ht : P.underlying t = some (.interface #[])) (hx : ev L x = some v1) (hy : ev L y = some v2) (h1 : ifc v1 = true) (h2 : ifc v2 = true) (h : ∀ w : World, (Op.equal t v1 v2).run P w = .ok b w) :
    Y P (.binOp .neq t x y u) T L S (.bool (!b)) := fun _ _ _ _ a w f _ => by
  have hg := guard_ok (P := P) (op := .neq) (x := x) (y := y) (w := w) ht h1 h2
  have hh := h w
  cases v1 <;> simp only [ifc, Bool.false_eq_true] at h1 <;> cases v2 <;> simp only [ifc, Bool.false_eq_true] at h2 <;> simp [execOp, f.val hx, f.val hy, binOp, hg, hh]
theorem y_beql {t u : TypeId} {p q : Bool} {x y : Operand} (ht : P.underlying t = some .bool) (hx : ev L x = some (.bool p)) (hy : ev L y = some (.bool q)) : Y P (.binOp .eql t x y u) T L S (.bool (p == q)) := fun _ _ _ _ a w f _ => by
  have h : (Op.equal t (.bool p) (.bool q)).run P w = .ok (p == q) w := run_eqin_bool 9999 p q ht
  simp [execOp, f.val hx, f.val hy, binOp, eqGuard, h]
theorem y_bneq {t u : TypeId} {p q : Bool} {x y : Operand} (ht : P.underlying t = some .bool) (hx : ev L x = some (.bool p)) (hy : ev L y = some (.bool q)) : Y P (.binOp .neq t x y u) T L S (.bool (!(p == q))) := fun _ _ _ _ a w f _ => by
  have h : (Op.equal t (.bool p) (.bool q)).run P w = .ok (p == q) w := run_eqin_bool 9999 p q ht
  simp [execOp, f.val hx, f.val hy, binOp, eqGuard, h]
theorem less_more : ∀ (l k : List UInt8), (!(Op.bytesLess l k || decide (l = k))) = Op.bytesLess k l
  | [], [] => by simp [Op.bytesLess]
  | [], b :: k => by simp [Op.bytesLess]
  | a :: l, [] => by simp [Op.bytesLess]
  | a :: l, b :: k => by
    have ih := less_more l k
    simp only [Op.bytesLess]
    by_cases h : a < b
    · have h2 : ¬ b < a := by rw [UInt8.lt_iff_toNat_lt] at h ⊢; omega
      have h3 : ¬ b = a := by intro e; subst e; exact absurd h (by simp)
      simp [h, h2, h3]
    · by_cases h2 : b < a
      · have h3 : ¬ a = b := by intro e; subst e; exact absurd h2 (by simp)
        simp [h, h2, h3]
      · have e : a = b := by
          apply UInt8.toNat_inj.1
          rw [UInt8.lt_iff_toNat_lt] at h h2
          omega
        subst e
        simpa using ih
theorem y_sgtr {l k : List UInt8} {t u : TypeId} (hx : ev L x = some (.string (bs l))) (hy : ev L y = some (.string (bs k))) : Y P (.binOp .gtr t x y u) T L S (.bool (Op.bytesLess k l)) :=
  fun _ _ _ _ a w f _ => by
    have h := less_more l k
    rw [← h]
    simp [execOp, f.val hx, f.val hy, binOp, eqGuard, Op.stringOp, ByteArray.toList_eq, list_beq]
/-! ### Results that are read out of cells -/
def RV (P : Program) (L : Sl) (S : World → Prop) (r : ResultVar) (v : Value) : Prop := ∀ a w, FrOk L a → S w →
  match r with
  | .tmp t => a.tmps[t]?.getD undef = v
  | .cell x t => ∃ p, (asAddr (a.tmps[x]?.getD undef)).run P w = .ok p w ∧ (loadVar t p).run P w = .ok v w
theorem rv_tmp {t : Nat} (hl : lk L t = some v) : RV P L S (.tmp t) v := fun a w f _ => by
  have := f t v hl
  simpa using this
theorem rv_cellA {t b o k : Nat} {x : Nat} {l vs : List Value} (hl : lk L x = some (.pointer (some ⟨b, o, none⟩))) (ha : agf P t = some true) (hz : szf P t = some k) (hb : Blk S b l) (hk : vs.length = k)
    (hv : ∀ j u, vs[j]? = some u → l[o + j]? = some u) : RV P L S (.cell x t) (.agg vs.toArray) := fun a w f hs => by
  have := f x _ hl
  obtain ⟨t', fz, h⟩ := hb w hs
  have e : a.tmps[x]?.getD undef = .pointer (some ⟨b, o, none⟩) := by simpa using this
  refine ⟨⟨b, o, none⟩, by rw [e]; rfl, ?_⟩
  simp [loadVar, run_isAgg ha, run_sizeOf hz, run_loadCells_of h hk hv]
theorem rv_cellB {t b k : Nat} {x : Nat} {l : List Value} (hl : lk L x = some (.pointer (some ⟨b, 0, none⟩))) (ha : agf P t = some true) (hz : szf P t = some k) (hb : Blk S b l) (hk : l.length = k) : RV P L S (.cell x t) (.agg l.toArray) :=
  rv_cellA hl ha hz hb hk fun j u h => by rw [Nat.zero_add]; exact h
theorem gq_rv1 {r : ResultVar} (hr : fn.results = #[r]) (h1 : RV P L (Sat G I R M) r v) (hle : I0.le I) (hp : M.Perm (M2 ++ J)) (h : Φ v I M2) : GQ (bodyPost P fn (Post G R I0 Φ)) .ret n L G I R M := fun a w s =>
  ⟨s.defers, v, by
    have := h1 a w s.fr s.sat
    cases r with
    | tmp t => simp_all [results]
    | cell x t => obtain ⟨p, e1, e2⟩ := this; simp [results, hr, e1, e2], v, I, M2, rfl, hle, s.sat.part hp, h⟩
theorem gq_rv2 {r1 r2 : ResultVar} (hr : fn.results = #[r1, r2]) (h1 : RV P L (Sat G I R M) r1 v1) (h2 : RV P L (Sat G I R M) r2 v2) (hle : I0.le I) (hp : M.Perm (M2 ++ J)) (h : Φ (.tuple #[v1, v2]) I M2) : GQ (bodyPost P fn (Post G R I0 Φ)) .ret n L G I R M := fun a w s =>
  ⟨s.defers, .tuple #[v1, v2], by
    have := h1 a w s.fr s.sat
    have := h2 a w s.fr s.sat
    cases r1 <;> cases r2 <;> simp only at * <;> (try obtain ⟨p, e1, e2⟩ := h1 a w s.fr s.sat) <;> (try obtain ⟨q, e3, e4⟩ := h2 a w s.fr s.sat) <;> simp_all [results], _, I, M2, rfl, hle, s.sat.part hp, h⟩
theorem gq_rv3 {r1 r2 r3 : ResultVar} (hr : fn.results = #[r1, r2, r3]) (h1 : RV P L (Sat G I R M) r1 v1) (h2 : RV P L (Sat G I R M) r2 v2) (h3 : RV P L (Sat G I R M) r3 v3) (hle : I0.le I) (hp : M.Perm (M2 ++ J)) (h : Φ (.tuple #[v1, v2, v3]) I M2) :
    GQ (bodyPost P fn (Post G R I0 Φ)) .ret n L G I R M := fun a w s =>
  ⟨s.defers, .tuple #[v1, v2, v3], by
    have := h1 a w s.fr s.sat
    have := h2 a w s.fr s.sat
    have := h3 a w s.fr s.sat
    cases r1 <;> cases r2 <;> cases r3 <;> simp only at * <;> (try obtain ⟨p, e1, e2⟩ := h1 a w s.fr s.sat) <;> (try obtain ⟨q, e3, e4⟩ := h2 a w s.fr s.sat) <;> (try obtain ⟨q', e5, e6⟩ := h3 a w s.fr s.sat) <;> simp_all [results], _, I, M2, rfl, hle, s.sat.part hp, h⟩
end
end Go.Proofs.YtnccebppgmnmfaaS
