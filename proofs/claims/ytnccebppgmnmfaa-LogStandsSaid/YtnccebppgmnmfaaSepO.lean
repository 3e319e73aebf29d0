/- Slices of bytes that began as a string: written, appended to, cut. Plain theorems. -/
import Derived.Test.YtnccebppgmnmfaaSepM
set_option linter.unusedVariables false
set_option linter.unusedSimpArgs false
namespace Go.Proofs.YtnccebppgmnmfaaS
open Go.RowKit
section
variable {P : Program} {n : Nat} {ops : Array Oper} {Q : Exit → Act → World → Prop} {G : World} {I R I0 : PH} {M M2 J : List Ent} {L : Sl} {v zv : Value}
variable {S : World → Prop} {T : TypeId} {x y z : Operand} {e k by_ : Nat}
theorem ef_tobytesC {s t d : Nat} {l : List UInt8} (hs : P.underlying s = some .string) (hd : P.underlying t = some (.slice e)) (he : P.underlying e = some (.int .u8)) (hx : ev L x = some (.string (bs l))) (hl : l.length ≤ 4611686018427387904) (hdd : Nat.blt d n = true) :
    Ef P n Q (some d) (.convert s t x) T L G I R M (fun L' I' M' => ∃ b c junk, (u8s l ++ junk).length = c ∧ c ≤ maxLen ∧ L' = (d, .slice (some ⟨b, 0, none⟩) l.length c) :: L ∧ I' = I ∧ M' = M ++ [cl b e (u8s l ++ junk)]) := by
  intro pos af gd a w next st hk
  have hr := run_bytes_of_string (P := P) w s t e (bs l) hs hd he
  have e1 : bytesRow (bs l) (grownCap w (bs l).size 0 e) = (u8s l ++ List.replicate (grownCap w l.length 0 e - l.length) (Value.int .u8 0)).toArray := by
    apply Array.ext'
    simp [bytesRow, u8s, u8v, bs_size]
  rw [e1] at hr
  simp only [Oper.wp, execOp, st.fr.val hx, Sem.run_bind, hr, Result.andThen_ok, Sem.run_pure]
  have hge := grownCap_ge w l.length 0 e
  have hle := grownCap_le_maxLen w l.length 0 e (by simp only [maxLen]; omega)
  refine hk _ I _ ⟨w.heap.size, grownCap w l.length 0 e, List.replicate (grownCap w l.length 0 e - l.length) (Value.int .u8 0), by simp [u8s_length]; omega, hle, rfl, rfl, rfl⟩ _ _ ((st.world ?_).put hdd _)
  have s1 := st.sat.drew.alloc (.cells (u8s l ++ List.replicate (grownCap w l.length 0 e - l.length) (Value.int .u8 0)).toArray e ((u8s l ++ List.replicate (grownCap w l.length 0 e - l.length) (Value.int .u8 0)).toArray.size, (u8s l ++ List.replicate (grownCap w l.length 0 e - l.length) (Value.int .u8 0)).toArray.size + 1))
  have s2 := s1.weaken (i := M.length) (e' := cl w.heap.size e (u8s l ++ List.replicate (grownCap w l.length 0 e - l.length) (Value.int .u8 0))) (by rw [List.getElem?_concat_length]; rfl) fun k hk => ⟨_, .inl (by simp), hk⟩
  simpa using s2
theorem setAt_mid : ∀ (vs l p : List Value), vs.length ≤ l.length → setAt (p ++ l) p.length vs = p ++ (vs ++ l.drop vs.length)
  | [], l, p, _ => by simp [setAt]
  | v :: vs, [], p, h => by simp at h
  | v :: vs, u :: l, p, h => by
    have ih := setAt_mid vs l (p ++ [v]) (by simpa using h)
    simp only [setAt]
    simpa using ih
theorem ef_appendC {t nn mm cc i g cap : Nat} {d : Option Nat} {a : Addr} {xs junk news : List Value} (ht : P.underlying t = some (.slice e)) (tf : TF P e k by_ zv) (hx : ev L x = some (.slice (some ⟨g, 0, none⟩) nn cap)) (hM : M[i]? = some (cl g e (xs ++ junk)))
    (hxs : xs.length = nn * k) (hc : (xs ++ junk).length = cap * k) (hm : cap ≤ maxLen)
    (hy : ev L y = some (.slice (some a) mm cc)) (hsrc : Src (Sat G I R M) a news) (hl : news.length = mm * k) (h1 : news.all one1 = true) (hb : (nn + mm) * by_ ≤ 140737488355328) (hmax : nn + mm ≤ 4611686018427387904) (hd : dstOk n d = true) :
    Ef P n Q d (.call { callee := .builtin .append, args := [x, y].toArray, argTypes := [t, t].toArray }) T L G I R M
      (fun L' I' M' => ∃ g' cap' junk', (xs ++ news ++ junk').length = cap' * k ∧ cap' ≤ maxLen ∧ L' = putL L d (.slice (some ⟨g', 0, none⟩) (nn + mm) cap') ∧ I' = I ∧ M' = M.set i (cl g' e (xs ++ news ++ junk'))) := by
  intro pos af gd act w next s hk
  obtain ⟨inf, hi, hsz, hby, hz⟩ := tf.info
  subst hsz hby
  have hmx : nn + mm ≤ maxLen := by simp only [maxLen]; omega
  have hnews := hsrc w s.sat
  have h1s : ∀ u ∈ news, one1 u = true := by simpa using h1
  have run : ∀ {v' w'}, (Builtin.append_ #[t, t] T #[.slice (some ⟨g, 0, none⟩) nn cap, .slice (some a) mm cc]).run P w = .ok v' w' → (execOp act.eval ⟨d, .call { callee := .builtin .append, args := [x, y].toArray, argTypes := [t, t].toArray }, T, pos, af, gd⟩).run P w = .ok (.value v') w' := by
    intro v' w' h
    simp only [execOp, resolve, invoke, builtin, Sem.run_bind, Sem.run_pure, Result.andThen_ok, List.map_toArray, List.map_cons, List.map_nil, s.fr.val hx, s.fr.val hy, h]
  unfold Oper.wp
  by_cases hroom : nn + mm ≤ cap
  · have hjl : news.length ≤ junk.length := by
      have h2 : (nn + mm) * inf.size ≤ cap * inf.size := Nat.mul_le_mul_right _ hroom
      rw [Nat.add_mul] at h2
      rw [List.length_append, hxs] at hc
      omega
    obtain ⟨w', h2, s2⟩ := run_storeCells (P := P) news (xs ++ junk) M (nn * inf.size) 0 w h1s hM s.sat (by rw [List.length_append, hxs]; omega)
    have hf := run_firstCells_some (P := P) w inf.size mm a mm cc news hl hnews
    have hr : (Builtin.append_ #[t, t] T #[.slice (some ⟨g, 0, none⟩) nn cap, .slice (some a) mm cc]).run P w = .ok (.slice (some ⟨g, 0, none⟩) (nn + mm) cap) w' := by
      simp [Builtin.append_, run_underlying ht, sizeOf, typeInfo, hi, Builtin.lenOf, hroom, hf, Addr.add_lit, h2]
    rw [run hr]
    have e2 : setAt (xs ++ junk) (nn * inf.size + 0) news = xs ++ news ++ junk.drop news.length := by
      rw [Nat.add_zero, ← hxs, setAt_mid news junk xs hjl, List.append_assoc]
    rw [e2] at s2
    refine hk _ I _ ⟨g, cap, junk.drop news.length, ?_, hm, rfl, rfl, rfl⟩ _ _ ((s.world s2).putO hd _)
    rw [← hc]; simp; omega
  · have holds : ∀ j u, xs[j]? = some u → w.cell? ((⟨g, 0, none⟩ : Addr).add j) = some u := fun j u hj => by
      obtain ⟨t', fz, hg⟩ := blk_own (R := R) (G := G) (I := I) hM w s.sat
      rw [Addr.add_lit, cell_of hg, Nat.zero_add, List.getElem?_append_left (List.getElem?_eq_some_iff.1 hj).1]
      exact hj
    have hr := run_append_grow (P := P) w t T e inf zv ht hi hz ⟨g, 0, none⟩ nn cap xs hxs holds a mm cc news hl hnews (by omega) (by omega) (growslice_fits (by omega) hb)
    have hg2 := grown_own (old := cap) tf s.sat hM hxs hl hmx
    rw [run hr]
    rcases hg2.parts (get_set hM) with ⟨e0, _⟩ | ⟨g', cap', junk', e1, e2, e3, e4, s3⟩
    · cases e0
    · cases e1
      have s4 := s3.cl_back (get_set (get_set hM)) (.inr rfl)
      rw [List.set_set, List.set_set] at s4
      exact hk _ I _ ⟨_, _, junk', e3, grownCap_le_maxLen w (nn + mm) cap e hmx, rfl, rfl, rfl⟩ _ _ ((s.world s4).putO hd _)
/-- A part of a slice. -/
theorem y_slslice {t m c : Nat} {g o : Nat} {i j : Int} {ki kj : IntKind} (ht : P.underlying t = some (.slice e)) (hz : szf P e = some k) (hx : ev L x = some (.slice (some ⟨g, o, none⟩) m c)) (hy : ev L y = some (.int ki i)) (hw : ev L z = some (.int kj j))
    (h0 : 0 ≤ i) (h1 : i ≤ j) (h2 : j ≤ c) (h3 : i < c) : Y P (.slice t x (some y) (some z) none) T L S (.slice (some ⟨g, o + i.toNat * k, none⟩) (j.toNat - i.toNat) (c - i.toNat)) := fun _ _ _ _ a w f _ => by
  have hj : 0 ≤ j := by omega
  have hi : i ≤ (j.toNat : Int) := by omega
  have hm : ¬ max j 0 < i := by omega
  have hne : ¬ c = i.toNat := by omega
  simp [execOp, f.val hx, f.val hy, f.val hw, Instr.sliceAt, Instr.slice, underlying, ht, Instr.sliceBounds, Instr.sliceBound, asIntOf, h0, h1, h2, hj, hi, hm, run_sizeOf hz, hne, Addr.add_lit]
theorem y_slslice_h {t m c : Nat} {g o : Nat} {j : Int} {kj : IntKind} (ht : P.underlying t = some (.slice e)) (hz : szf P e = some k) (hx : ev L x = some (.slice (some ⟨g, o, none⟩) m c)) (hw : ev L z = some (.int kj j))
    (h1 : 0 ≤ j) (h2 : j ≤ c) : Y P (.slice t x none (some z) none) T L S (.slice (some ⟨g, o, none⟩) j.toNat c) := fun _ _ _ _ a w f _ => by
  have hz0 : (if c = 0 then (some (⟨g, o, none⟩ : Addr)) else some ⟨g, o, none⟩) = some ⟨g, o, none⟩ := by split <;> rfl
  simp [execOp, f.val hx, f.val hw, Instr.sliceAt, Instr.slice, underlying, ht, Instr.sliceBounds, Instr.sliceBound, asIntOf, h1, h2, run_sizeOf hz, Addr.add_lit]
end
end Go.Proofs.YtnccebppgmnmfaaS
