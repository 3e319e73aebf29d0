/- Contracts that only look at what is known; what is owned may be lent. Slices that are read. Plain theorems. -/
import Derived.Test.YtnccebppgmnmfaaSepN
set_option linter.unusedVariables false
set_option linter.unusedSimpArgs false
namespace Go.Proofs.YtnccebppgmnmfaaS
open Go.RowKit
def CtrQ (P : Program) (f : Nat) (args : List Value) (Kn : PH → Prop) (φ : Value → Prop) : Prop :=
  ∀ G I R M w, Kn I → Sat G I R M w → Calls P f args.toArray w fun e w' => ∃ v, e = .returned v ∧ Sat G I R M w' ∧ φ v
theorem CtrQ.of {P : Program} {f : Nat} {args : List Value} {Kn : PH → Prop} {φ : Value → Prop} (h : ∀ I, Kn I → Ctr P f args I [] (fun v _ _ => φ v)) : CtrQ P f args Kn φ := fun G I R M w hk s => by
  obtain ⟨R', s1, back⟩ := Sat.split (M := []) (N := M) s
  refine (h I hk G R' w s1).mono fun e w' ⟨v, I', M', he, hl, hs, hp⟩ => ⟨v, he, ?_, hp⟩
  exact ((back I' M' w' hl hs).leI hl).part (M2 := M) (J := M') List.perm_append_comm
theorem CtrP.toQ {P : Program} {f : Nat} {args : List Value} {Kn : PH → Prop} {φ : Value → Prop} (h : CtrP P f args φ) : CtrQ P f args Kn φ := fun G I R M w _ s => h G I R M w s
theorem CtrQ.mono {P : Program} {f : Nat} {args : List Value} {Kn Kn' : PH → Prop} {φ ψ : Value → Prop} (h : CtrQ P f args Kn φ) (hk : ∀ I, Kn' I → Kn I) (hi : ∀ v, φ v → ψ v) : CtrQ P f args Kn' ψ := fun G I R M w k s =>
  (h G I R M w (hk I k) s).mono fun e w' ⟨v, he, hs, hp⟩ => ⟨v, he, hs, hi v hp⟩
section
variable {P : Program} {n : Nat} {ops : Array Oper} {Q : Exit → Act → World → Prop} {G : World} {I R I0 : PH} {M M2 J : List Ent} {L : Sl} {fn : Func} {v v1 v2 v3 : Value}
variable {S : World → Prop} {T : TypeId} {x y z : Operand}
/-- Some of what is owned becomes known for a while. -/
theorem Sat.lend {w : World} {Ml Mr : List Ent} (s : Sat G I R M w) (hp : M.Perm (Ml ++ Mr)) :
    ∃ hl I', stars Ml hl ∧ hl.le I' ∧ I.le I' ∧ Sat G I' R Mr w ∧ ∀ w', Sat G I' R Mr w' → Sat G I R M w' := by
  obtain ⟨h, a, d1, d2, d3, e, f, g⟩ := (s.perm hp).mem
  obtain ⟨h1, h2, x, y, d, rfl⟩ := stars_append.1 a
  rw [PH.disj_union_left] at d1 d2
  refine ⟨h1, h1.union I, x, PH.le_union_left _ _, PH.le_union_right d1.1, ⟨s.os, s.tape, s.output, h2, y, PH.disj_union_right.2 ⟨PH.disj_comm d, d1.2⟩, d2.2, PH.disj_union_left.2 ⟨d2.1, d3⟩,
    PH.inW_le (PH.le_union_right d) e, PH.inW_union (PH.inW_le (PH.le_union_left _ _) e) f, g⟩, ?_⟩
  intro w' s'
  obtain ⟨k, ks, c1, c2, c3, c4, c5, c6⟩ := s'.mem
  rw [PH.disj_union_right] at c1
  rw [PH.disj_union_left] at c3
  refine Sat.perm (M := Ml ++ Mr) ⟨s'.os, s'.tape, s'.output, h1.union k, stars_append.2 ⟨h1, k, x, ks, PH.disj_comm c1.1, rfl⟩, ?_, ?_, c3.2, ?_, ?_, c6⟩ hp.symm
  · exact PH.disj_union_left.2 ⟨d1.1, c1.2⟩
  · exact PH.disj_union_left.2 ⟨c3.1, c2⟩
  · exact PH.inW_union (PH.inW_le (PH.le_union_left _ _) c5) c4
  · exact PH.inW_le (PH.le_union_right d1.1) c5
theorem ef_callq {f : Nat} {xs : List Operand} {ts : Array TypeId} {vs : List Value} {d : Option Nat} {T : TypeId} {Ml Mr : List Ent} {Kn : PH → Prop} {φ : Value → Prop}
    (hf : Enters P f) (ha : evs L xs = some vs) (hc : CtrQ P f vs Kn φ) (hp : M.Perm (Ml ++ Mr)) (hk : ∀ hl I', stars Ml hl → hl.le I' → I.le I' → Kn I') (hd : dstOk n d = true) :
    Ef P n Q d (.call { callee := .value (.func f), args := xs.toArray, argTypes := ts }) T L G I R M (fun L' I' M' => ∃ v, φ v ∧ L' = putL L d v ∧ I' = I ∧ M' = M) := by
  intro pos af gd a w next s hkk
  have hrun : (execOp a.eval ⟨d, .call { callee := .value (.func f), args := xs.toArray, argTypes := ts }, T, pos, af, gd⟩).run P w = .ok (.enter f vs.toArray) w := by
    have := hf vs.toArray w
    simp [execOp, resolve, Act.eval, Deferred.ofValue, invoke, s.fr.args ha, this]
  unfold Oper.wp
  rw [hrun]
  obtain ⟨hl, I', h1, h2, h3, s1, back⟩ := s.sat.lend hp
  refine (hc G I' R Mr w (hk hl I' h1 h2 h3) s1).mono fun e w' ⟨v, he, hs, hΦ⟩ => ?_
  subst he
  exact hkk _ I M ⟨v, hΦ, rfl, rfl, rfl⟩ _ w' ((s.world (back w' hs)).putO hd v)

/-! ### Slices that are read -/
/-- The cells of a slice of n elements (k cells each) that is known. -/
structure Rsl (I : PH) (k : Nat) (A : Option Addr) (n : Nat) (xs : List Value) : Prop where
  len : xs.length = n * k
  pos : 0 < n → ∃ b o t fz l, A = some ⟨b, o, none⟩ ∧ I b = some (.cells (List.toArray l) t fz) ∧ ∀ j u, xs[j]? = some u → l[o + j]? = some u
theorem Rsl.mono {k nn : Nat} {A : Option Addr} {xs : List Value} {I I' : PH} (h : Rsl I k A nn xs) (hl : I.le I') : Rsl I' k A nn xs :=
  ⟨h.len, fun hp => let ⟨b, o, t, fz, l, a, c, d⟩ := h.pos hp; ⟨b, o, t, fz, l, a, hl _ _ c, d⟩⟩
theorem y_iaddrA {t e k b o m c : Nat} {i : Int} {ki : IntKind} {A : Option Addr} (ht : P.underlying t = some (.slice e)) (hz : szf P e = some k) (hx : ev L x = some (.slice A m c)) (hA : A = some ⟨b, o, none⟩) (hy : ev L y = some (.int ki i))
    (h0 : 0 ≤ i) (h1 : i < m) : Y P (.indexAddr t x y) T L S (.pointer (some ⟨b, o + i.toNat * k, none⟩)) := by subst hA; exact y_iaddr ht hz hx hy h0 h1
/-- What a slice that is owned lends. -/
theorem rsl_cl {b e k nn : Nat} {xs junk : List Value} {I : PH} {hl : PH} (h : stars [cl b e (xs ++ junk)] hl) (hle : hl.le I) (hx : xs.length = nn * k) : Rsl I k (some ⟨b, 0, none⟩) nn xs := by
  obtain ⟨h1, h2, ⟨fz, _, rfl⟩, rfl, _, rfl⟩ := h
  rw [PH.union_emp] at hle
  exact ⟨hx, fun _ => ⟨b, 0, e, fz, xs ++ junk, rfl, hle _ _ (PH.single_at _ _), fun j u hj => by
    rw [Nat.zero_add, List.getElem?_append_left (List.getElem?_eq_some_iff.1 hj).1]; exact hj⟩⟩
theorem rsl_cl0 {b e k nn : Nat} {xs : List Value} {I : PH} {hl : PH} (h : stars [cl b e xs] hl) (hle : hl.le I) (hx : xs.length = nn * k) : Rsl I k (some ⟨b, 0, none⟩) nn xs :=
  rsl_cl (junk := []) (by rw [List.append_nil]; exact h) hle hx
theorem rsl_osl {e k nn : Nat} {xs : List Value} {I : PH} {hl : PH} (h : stars [osl e k v nn xs] hl) (hle : hl.le I) : ∃ A c, v = .slice A nn c ∧ Rsl I k A nn xs := by
  obtain ⟨h1, h2, ⟨hlen, hc⟩, rfl, _, rfl⟩ := h
  rw [PH.union_emp] at hle
  rcases hc with ⟨rfl, rfl, rfl⟩ | ⟨g, cap, cur, rfl, h1, h2, h3, h4, rfl⟩
  · exact ⟨none, 0, rfl, hlen, fun h => absurd h (Nat.lt_irrefl 0)⟩
  · refine ⟨_, _, rfl, hlen, fun _ => ⟨g, 0, e, (0, 0), cur.toList, rfl, by rw [Array.toArray_toList]; exact hle _ _ (PH.single_at _ _), fun j u hj => ?_⟩⟩
    have hlt : j < nn * k := by rw [← hlen]; exact (List.getElem?_eq_some_iff.1 hj).1
    rw [Nat.zero_add]
    rw [← h4, List.getElem?_take_of_lt hlt] at hj
    exact hj
theorem flat_get {α : Type} {enc : α → List Value} {k : Nat} (hk : ∀ a, (enc a).length = k) : ∀ (l : List α) (i off : Nat) (a : α), l[i]? = some a → off < k → ((l.map enc).flatten)[i * k + off]? = (enc a)[off]?
  | [], i, off, a, h, _ => by cases h
  | x :: l, 0, off, a, h, ho => by
    simp at h; subst h
    simp only [List.map_cons, List.flatten_cons, Nat.zero_mul, Nat.zero_add]
    rw [List.getElem?_append_left (by rw [hk]; exact ho)]
  | x :: l, i + 1, off, a, h, ho => by
    simp only [List.map_cons, List.flatten_cons]
    rw [List.getElem?_append_right (by rw [hk, Nat.add_mul]; omega), hk]
    have := flat_get hk l i off a (by simpa using h) ho
    rw [← this]; congr 1
    rw [Nat.add_mul]; omega
theorem flat_len {α : Type} {enc : α → List Value} {k : Nat} (hk : ∀ a, (enc a).length = k) : ∀ (l : List α), ((l.map enc).flatten).length = l.length * k
  | [] => by simp
  | x :: l => by simp only [List.map_cons, List.flatten_cons, List.length_append, hk, flat_len hk l, List.length_cons, Nat.add_mul]; omega
end
theorem cellsL_one {v : Value} (h : one1 v = true) : cellsL v = [v] := by cases v <;> first | rfl | cases h
theorem fill1 {v z : Value} (h : one1 v = true) : fillL (rowPlaces 1 1) (zerosL 1 [z]) [(0, v)] = some [v] := by
  have e : rowPlaces 1 1 = [(0, 1)] := rfl
  simp [fillL, cellsL_one h, e, zerosL, setAt]; rfl
theorem fill2 {v u z : Value} (h : one1 v = true) (h2 : one1 u = true) : fillL (rowPlaces 2 1) (zerosL 2 [z]) [(0, v), (1, u)] = some [v, u] := by
  have e : rowPlaces 2 1 = [(0, 1), (1, 1)] := rfl
  simp [fillL, cellsL_one h, cellsL_one h2, e, zerosL, setAt]; rfl
end Go.Proofs.YtnccebppgmnmfaaS
