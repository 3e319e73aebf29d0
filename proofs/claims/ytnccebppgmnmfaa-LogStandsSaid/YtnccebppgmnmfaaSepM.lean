/- What strings.Builder does: pointers turned, a row of bytes as a string. Plain theorems. -/
import Derived.Test.YtnccebppgmnmfaaSepL
import Derived.Laws.Externs
set_option linter.unusedVariables false
set_option linter.unusedSimpArgs false
namespace Go.Proofs.YtnccebppgmnmfaaS
open Go.RowKit
section
variable {P : Program} {n : Nat} {ops : Array Oper} {Q : Exit → Act → World → Prop} {G : World} {I R I0 : PH} {M M2 J : List Ent} {L : Sl} {v : Value}
variable {S : World → Prop} {T : TypeId} {x y z : Operand}
theorem sat_shape {w : World} {i b : Nat} {e : TypeId} {l : List Value} (s : Sat G I R M w) (hM : M[i]? = some (cl b e l)) : w.shape? b = some (e, l.length) := by
  obtain ⟨fz, _, s1⟩ := s.cl hM
  simp [World.shape?, s1.block (get_set hM)]
theorem y_tounsafe {s t u k i b : Nat} {e : TypeId} {l : List Value} (hs : P.underlying s = some (.pointer u)) (hd : P.underlying t = some .unsafePointer) (hz : szf P u = some (k + 1)) (hx : ev L x = some (.pointer (some ⟨b, 0, none⟩))) (hM : M[i]? = some (cl b e l)) (hl : 0 < l.length) :
    Y P (.convert s t x) T L (Sat G I R M) (.pointer (some ⟨b, 0, none⟩)) := fun _ _ _ _ a w f hS => by
  obtain ⟨j, hj, hjs⟩ := info_of_sz hz
  have h := Lib.run_to_unsafe (P := P) w ⟨b, 0, none⟩ hs hd hj (by rw [hjs]; exact Nat.succ_ne_zero _) (sat_shape hS hM) hl
  simp [execOp, f.val hx, h]
theorem y_fromunsafe {s t u k i b m : Nat} {e : TypeId} {l : List Value} (hs : P.underlying s = some .unsafePointer) (hd : P.underlying t = some (.pointer u)) (hz : szf P u = some k) (hx : ev L x = some (.pointer (some ⟨b, 0, none⟩))) (hM : M[i]? = some (cl b e l)) (hm : l.length = m)
    (hlies : liesAt P P.depth e (m / P.cellsOf e) 0 u 1 = true) : Y P (.convert s t x) T L (Sat G I R M) (.pointer (some ⟨b, 0, none⟩)) := fun _ _ _ _ a w f hS => by
  obtain ⟨j, hj, hjs⟩ := info_of_sz hz
  subst hm
  have h := Lib.run_from_unsafe (P := P) w ⟨b, 0, none⟩ hs hd hj (sat_shape hS hM) hlies
  simp [execOp, f.val hx, h]
theorem y_noescape {f : Nat} {fn : Func} {ts : Array TypeId} (hf : P.funcs[f]? = some fn) (hname : (fn.name == "runtime.NumGoroutine") = false) (hb : fn.body.isNone = true) (hn : Extern.findNext fn = none) (he : Extern.find fn = some Extern.AbiNoEscape.same) (hx : evs L [x] = some [v]) :
    Y P (.call { callee := .value (.func f), args := [x].toArray, argTypes := ts }) T L S v := fun _ _ _ _ a w fr _ => by
  have ha := fr.args hx
  have h := run_callFunc_extern (P := P) hf hname hb hn he #[v] w
  rw [Lib.run_noEscape] at h
  simp only [Result.andThen] at h
  have h2 : (callFunc f [v].toArray).run P w = .ok (.value v) w := h
  simp only [execOp, resolve, Act.eval, Deferred.ofValue, invoke, ha]
  simpa using h2
theorem osl_slice {e k nn : Nat} {xs : List Value} : ∀ h, osl e k v nn xs h → ∃ A c, v = .slice A nn c := fun h a => osl_len a
/-- Where the bytes of an own slice lie: an address that matters only where there are some. -/
def sdOk (v : Value) (p : Option Addr) : Prop := ∀ g m c, v = .slice (some ⟨g, 0, none⟩) m c → 0 < m → p = some ⟨g, 0, none⟩
theorem ef_sdata {d e k nn i u : Nat} {xs : List Value} {ts : Array TypeId} (hT : P.underlying T = some (.pointer u)) (hx : ev L x = some v) (hM : M[i]? = some (osl e k v nn xs)) (hd : Nat.blt d n = true) :
    Ef P n Q (some d) (.call { callee := .builtin .unsafeSliceData, args := [x].toArray, argTypes := ts }) T L G I R M (fun L' I' M' => ∃ p, sdOk v p ∧ L' = (d, .pointer p) :: L ∧ I' = I ∧ M' = M) := by
  intro pos af gd a w next s hk
  unfold Oper.wp
  have run : ∀ {v' w'}, (Builtin.unsafeSliceData_ ts T #[v]).run P w = .ok v' w' → (execOp a.eval ⟨some d, .call { callee := .builtin .unsafeSliceData, args := [x].toArray, argTypes := ts }, T, pos, af, gd⟩).run P w = .ok (.value v') w' := by
    intro v' w' h
    simp only [execOp, resolve, invoke, builtin, Sem.run_bind, Sem.run_pure, Result.andThen_ok, List.map_toArray, List.map_cons, List.map_nil, s.fr.val hx, h]
  rcases s.sat.parts hM with ⟨rfl, _, _, _⟩ | ⟨g, cap, junk, rfl, h1, h2, h3, s1⟩
  · rw [run (Lib.run_unsafeSliceData_nil w ts T 0 0)]
    exact hk _ I M ⟨none, fun g m c e => (by cases e), rfl, rfl, rfl⟩ _ _ (s.put hd _)
  · by_cases hc : cap = 0
    · subst hc
      have hb := s1.block (get_set hM)
      rw [run (Lib.run_unsafeSliceData_zero w ts T u hT ⟨g, 0, none⟩ nn (e, (xs ++ junk).length) (by simp [World.shape?, hb]))]
      refine hk _ I M ⟨some ⟨w.heap.size, 0, none⟩, fun g m c e hm => ?_, rfl, rfl, rfl⟩ _ _ ((s.world ?_).put hd _)
      · cases e; omega
      · have := (s.sat.alloc (.view ⟨g, 0, none⟩ u)).drop M.length
        simpa [List.eraseIdx_append_of_length_le] using this
    · rw [run (Lib.run_unsafeSliceData_row w ts T ⟨g, 0, none⟩ nn cap hc)]
      exact hk _ I M ⟨some ⟨g, 0, none⟩, fun g m c e _ => (by cases e; rfl), rfl, rfl, rfl⟩ _ _ (s.put hd _)
theorem ef_ustr {d e nn i u it : Nat} {bytes : List UInt8} {p : Option Addr} (hu : P.underlying u = some (.pointer e)) (hc : P.cellsOf e = 1) (hx : ev L x = some (.pointer p)) (hy : ev L y = some (.int .i64 (nn : Int))) (hp : sdOk v p) (hM : M[i]? = some (osl e 1 v nn (u8s bytes))) (hmax : nn ≤ 4611686018427387904) (hd : Nat.blt d n = true) :
    Ef P n Q (some d) (.call { callee := .builtin .unsafeString, args := [x, y].toArray, argTypes := [u, it].toArray }) T L G I R M (fun L' I' M' => L' = (d, .string (bs bytes)) :: L ∧ I' = I ∧ M' = M.eraseIdx i) := by
  intro pos af gd a w next s hk
  unfold Oper.wp
  have run : ∀ {v' w'}, (Builtin.unsafeString_ #[u, it] T #[.pointer p, .int .i64 (nn : Int)]).run P w = .ok v' w' → (execOp a.eval ⟨some d, .call { callee := .builtin .unsafeString, args := [x, y].toArray, argTypes := [u, it].toArray }, T, pos, af, gd⟩).run P w = .ok (.value v') w' := by
    intro v' w' h
    simp only [execOp, resolve, invoke, builtin, Sem.run_bind, Sem.run_pure, Result.andThen_ok, List.map_toArray, List.map_cons, List.map_nil, s.fr.val hx, s.fr.val hy, h]
  have hlen : bytes.length = nn := by
    have := s.sat.says hM fun h a => a.1
    rw [u8s_length, Nat.mul_one] at this; exact this
  by_cases h0 : nn = 0
  · subst h0
    have hb : bytes = [] := List.eq_nil_of_length_eq_zero hlen
    subst hb
    rw [run (Lib.run_unsafeString_none w u it T p)]
    exact hk _ I _ ⟨rfl, rfl, rfl⟩ _ _ ((s.world (s.sat.drop i)).put hd _)
  · rcases s.sat.parts hM with ⟨_, e0, _, _⟩ | ⟨g, cap, junk, rfl, h1, h2, h3, s1⟩
    · exact absurd e0 h0
    · have hpg := hp g nn cap rfl (by omega)
      subst hpg
      have hb := s1.block (get_set hM)
      have hr := Lib.run_unsafeString_row (P := P) w u it T e hu hc g (u8s bytes ++ junk).length (by simp [World.shape?, hb]) bytes (fun e => by rw [e] at hlen; simp at hlen; omega) (by simp [u8s]) (by omega) (fun j q hq => by
        rw [Addr.add_lit, cell_of hb]
        have hj := (List.getElem?_eq_some_iff.1 hq).1
        rw [Nat.zero_add, List.getElem?_append_left (by simpa [u8s] using hj)]
        simp [u8s, u8v, hq])
      rw [hlen] at hr
      rw [run hr]
      refine hk _ I _ ⟨rfl, rfl, rfl⟩ _ _ ((s.world ?_).put hd _)
      have s2 := s1.write (w' := w.freeze ⟨g, 0, none⟩ nn) (o' := .cells (u8s bytes ++ junk).toArray e (0, nn)) (get_set hM) (by unfold World.freeze; split <;> rfl) (by unfold World.freeze; split <;> rfl) (by unfold World.freeze; split <;> rfl)
        (by unfold World.freeze; rw [if_neg h0]; simp [Array.getElem?_modify, hb]) (fun j hj _ => by unfold World.freeze; rw [if_neg h0]; simp [Array.getElem?_modify, Ne.symm hj])
      have s3 := s2.drop i
      simpa [List.set_set, List.eraseIdx_set_eq] using s3
theorem osl_u8s {e nn : Nat} {bytes : List UInt8} {xs : List Value} (hn : nn = bytes.length) (hx : xs = u8s bytes) : osl e 1 v nn xs = osl e 1 v bytes.length (u8s bytes) := by rw [hn, hx]
theorem gb_y_want {S : World → Prop} {fuel i : Nat} {listed : Array Bool} {d : Nat} {op : Op} {T : TypeId} {pos : String} {af : Array Edge} {j dj : Nat} {want b : Bool} {oj : Oper} {v : Value} (hi : ops[i]? = some ⟨some d, op, T, pos, af, some (j, want)⟩) (hj : ops[j]? = some oj) (hdj : oj.dst = some dj)
    (hl : lk L dj = some (.bool b)) (hb : b = want) (hd : Nat.blt d n = true) (hy : Y P op T L (Sat G I R M) v) (h : GA P n ops Q S fuel (listed.setIfInBounds i true) ((d, v) :: L) G I R M) : GB P n ops Q S fuel listed i L G I R M := fun hp hs a w s hS => by
  refine wpOp_run hi (by simp [Region.wanted, yielded_of hj hdj hl s.fr, hb]) ?_
  unfold Oper.wp
  rw [hy _ _ _ _ a w s.fr s.sat]
  exact ⟨hS, h hp hs _ w (s.put hd v) hS⟩
theorem gb_skip {S : World → Prop} {fuel i : Nat} {listed : Array Bool} {d : Nat} {op : Op} {T : TypeId} {pos : String} {af : Array Edge} {j dj : Nat} {want b : Bool} {oj : Oper} (hi : ops[i]? = some ⟨some d, op, T, pos, af, some (j, want)⟩) (hj : ops[j]? = some oj) (hdj : oj.dst = some dj)
    (hl : lk L dj = some (.bool b)) (hb : b = !want) (hd : Nat.blt d n = true) (h : GA P n ops Q S fuel (listed.setIfInBounds i true) ((d, undef) :: L) G I R M) : GB P n ops Q S fuel listed i L G I R M := fun hp hs a w s hS => by
  have hw : Region.wanted ⟨some d, op, T, pos, af, some (j, want)⟩ (yielded ops a.tmps) = false := by simp only [Region.wanted, yielded_of hj hdj hl s.fr, hb]; cases want <;> simp
  unfold wpOp
  rw [hi]
  simp only [hw, Bool.false_eq_true, if_false]
  exact ⟨hS, h hp hs _ w (s.put hd undef) hS⟩
theorem gl_weak {l : List Oper} (i : Nat) {e e' : Ent} (hM : M[i]? = some e) (hw : ∀ k, e k → e' k) (h : GL P n ops Q l L G I R (M.set i e')) : GL P n ops Q l L G I R M := fun a w s => h a w (s.world (s.sat.weaken hM hw))
theorem gc_weak {l : Code} (i : Nat) {e e' : Ent} (hM : M[i]? = some e) (hw : ∀ k, e k → e' k) (h : GC P n Q l L G I R (M.set i e')) : GC P n Q l L G I R M := fun a w s => h a w (s.world (s.sat.weaken hM hw))
theorem gq_weak {l : Exit} (i : Nat) {e e' : Ent} (hM : M[i]? = some e) (hw : ∀ k, e k → e' k) (h : GQ Q l n L G I R (M.set i e')) : GQ Q l n L G I R M := fun a w s => h a w (s.world (s.sat.weaken hM hw))
theorem not_t {p : Prop} [Decidable p] (h : (!decide p) = true) : ¬ p := by simpa using h
theorem not_f {p : Prop} [Decidable p] (h : (!decide p) = false) : p := by simpa using h
/-- A strings.Builder's first cell. -/
def adr (b : Nat) (u : Bool) : Value := if u then .pointer (some ⟨b, 0, none⟩) else .pointer none
def bldN (T e b : Nat) (l : List UInt8) : Value × Bool → List Ent
  | (v, u) => [cl b T [adr b u, v], osl e 1 v l.length (u8s l)]
abbrev bld (T e b : Nat) (l : List UInt8) : Ent := Hid (bldN T e b l)
end
end Go.Proofs.YtnccebppgmnmfaaS
