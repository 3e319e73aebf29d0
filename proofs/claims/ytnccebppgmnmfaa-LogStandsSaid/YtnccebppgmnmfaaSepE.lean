/- Slices that are owned and appended to; bytes and strings; make. Plain theorems. -/
import Derived.Test.YtnccebppgmnmfaaSepD
import Derived.Lib.AppendStr
import Derived.Laws.IdiomStrings
import Derived.Laws.BytesString
import Derived.Laws.OwnMore
import Derived.Laws.MakeOwn
set_option linter.unusedVariables false
set_option linter.unusedSimpArgs false
namespace Go.Proofs.YtnccebppgmnmfaaS
open Go.RowKit Go.Lib

/-- An own slice v of n elements of type e (k cells each): its cells are xs. -/
def osl (e k : Nat) (v : Value) (n : Nat) (xs : List Value) : Ent := fun h => xs.length = n * k ∧
  ((v = .slice none 0 0 ∧ n = 0 ∧ h = PH.emp) ∨
   ∃ g cap cur, v = .slice (some ⟨g, 0, none⟩) n cap ∧ n ≤ cap ∧ cap ≤ maxLen ∧ cur.size = cap * k ∧ cur.toList.take (n * k) = xs ∧ h = PH.single g (.cells cur e (0, 0)))
structure TF (P : Program) (e k by_ : Nat) (zv : Value) : Prop where
  sz : szf P e = some k
  by_ : byf P e = some by_
  zr : zrf P e = some zv
  zs : zv.cells.size = k
  pos : 0 < k
section
variable {P : Program} {n : Nat} {ops : Array Oper} {Q : Exit → Act → World → Prop} {G : World} {I R I0 : PH} {M : List Ent} {L : Sl} {fn : Func} {v u zv : Value} {w : World}
variable {S : World → Prop} {T : TypeId} {x y z : Operand} {e k by_ m c i : Nat} {xs news : List Value}
theorem TF.info (h : TF P e k by_ zv) : ∃ i, P.info? e = some i ∧ i.size = k ∧ i.bytes = by_ ∧ i.zero = some zv := by
  have h1 := h.sz; have h2 := h.by_; have h3 := h.zr
  unfold szf at h1; unfold byf at h2; unfold zrf at h3
  cases e1 : P.info? e with
  | none => rw [e1] at h1; cases h1
  | some i => rw [e1] at h1 h2 h3; exact ⟨i, rfl, by simpa using h1, by simpa using h2, by simpa using h3⟩
theorem Sat.swap_in {f e0 : Ent} (s : Sat G I R (M ++ [f]) w) (h : M[i]? = some e0) : Sat G I R (M.set i f) w := by
  have hi := (List.getElem?_eq_some_iff.1 h).1
  have s1 : Sat G I R ((M ++ [f]).eraseIdx i) w := s.drop i
  rw [List.eraseIdx_append_of_lt_length hi] at s1
  refine s1.perm ?_
  exact (List.perm_append_comm (l₁ := M.eraseIdx i) (l₂ := [f])).trans (set_perm h)
theorem Sat.drew (s : Sat G I R M w) : Sat G I R M w.drew := s.drawn _
theorem osl_nil (e k : Nat) : osl e k (.slice none 0 0) 0 [] PH.emp := ⟨by simp, .inl ⟨rfl, rfl, rfl⟩⟩
/-- A nil slice is owned for nothing. -/
theorem Sat.nil (s : Sat G I R M w) (e k : Nat) : Sat G I R (M ++ [osl e k (.slice none 0 0) 0 []]) w := by
  obtain ⟨h, a, d⟩ := s.mem
  exact ⟨s.os, s.tape, s.output, h, stars_append.2 ⟨h, .emp, a, ⟨.emp, .emp, osl_nil e k, rfl, PH.emp_disj _, (PH.union_emp _).symm⟩, PH.disj_emp _, (PH.union_emp _).symm⟩, d⟩
theorem gl_nilslice {l : List Oper} (e k : Nat) (h : GL P n ops Q l L G I R (M ++ [osl e k (.slice none 0 0) 0 []])) : GL P n ops Q l L G I R M := fun a w s => h a w (s.world (s.sat.nil e k))
theorem gc_nilslice {cd : Code} (e k : Nat) (h : GC P n Q cd L G I R (M ++ [osl e k (.slice none 0 0) 0 []])) : GC P n Q cd L G I R M := fun a w s => h a w (s.world (s.sat.nil e k))
theorem osl_len {nn : Nat} {h : PH} (a : osl e k v nn xs h) : ∃ b c, v = .slice b nn c := by
  rcases a.2 with ⟨rfl, rfl, _⟩ | ⟨g, cap, cur, rfl, _⟩
  · exact ⟨none, 0, rfl⟩
  · exact ⟨_, _, rfl⟩
theorem oslnew {g nn cap : Nat} {cur : Array Value} (hxs : xs.length = nn * k) (h1 : nn ≤ cap) (h2 : cap ≤ maxLen) (h3 : cur.size = cap * k) (h4 : cur.toList.take (nn * k) = xs) :
    ∀ h, blk g (.cells cur e (0, 0)) h → osl e k (.slice (some ⟨g, 0, none⟩) nn cap) nn xs h := fun h a => ⟨hxs, .inr ⟨g, cap, cur, rfl, h1, h2, h3, h4, a⟩⟩
/-- The arm that grows: what both appends leave. -/
theorem grown_own {nn mm old : Nat} {f0 : Ent} (tf : TF P e k by_ zv) (s : Sat G I R M w) (hM : M[i]? = some f0) (hxs : xs.length = nn * k) (hn : news.length = mm * k) (hmax : nn + mm ≤ maxLen) :
    Sat G I R (M.set i (osl e k (.slice (some ⟨w.heap.size, 0, none⟩) (nn + mm) (grownCap w (nn + mm) old e)) (nn + mm) (xs ++ news)))
      (w.drew.alloc (.cells (xs.toArray ++ news.toArray ++ Builtin.zeroCells zv.cells (grownCap w (nn + mm) old e - (nn + mm))) e)) := by
  have hge := grownCap_ge w (nn + mm) old e
  have hcm : grownCap w (nn + mm) old e ≤ maxLen := grownCap_le_maxLen w (nn + mm) old e hmax
  have s1 : Sat G I R (M ++ [blk w.heap.size (.cells (xs.toArray ++ news.toArray ++ Builtin.zeroCells zv.cells (grownCap w (nn + mm) old e - (nn + mm))) e)]) _ := s.drew.alloc _
  have hl : (xs ++ news).length = (nn + mm) * k := by rw [List.length_append, hxs, hn, Nat.add_mul]
  refine ((s1.swap_in hM).weaken (get_set hM) (oslnew hl hge hcm ?_ ?_)) |> fun t => by rwa [List.set_set] at t
  · simp only [Array.size_append, List.size_toArray, size_zeroCells, tf.zs, hxs, hn, ← Nat.add_mul]
    congr 1
    omega
  · simp only [Array.toList_append, List.append_assoc]
    rw [← List.append_assoc, ← hl]
    exact List.take_left
theorem append_own {t ty nn mm cc : Nat} {a : Addr} (ht : P.underlying t = some (.slice e)) (tf : TF P e k by_ zv) (s : Sat G I R M w) (hM : M[i]? = some (osl e k v nn xs))
    (hl : news.length = mm * k) (hnews : ∀ j u, news[j]? = some u → w.cell? (a.add j) = some u) (h1 : ∀ u ∈ news, one1 u = true) (hb : (nn + mm) * by_ ≤ 140737488355328) (hmax : nn + mm ≤ 4611686018427387904) :
    ∃ v' w', (Builtin.append_ #[t, t] ty #[v, .slice (some a) mm cc]).run P w = .ok v' w' ∧ Sat G I R (M.set i (osl e k v' (nn + mm) (xs ++ news))) w' := by
  obtain ⟨inf, hi, hsz, hby, hz⟩ := tf.info
  subst hsz hby
  have hmx : nn + mm ≤ maxLen := by simp only [maxLen]; omega
  have h1' : ∀ u ∈ news, u.oneCell' = true := fun u hu => by have := h1 u hu; cases u <;> first | rfl | cases this
  have hxl : xs.length = nn * inf.size := s.says hM fun h a => a.1
  obtain ⟨kk, hk, back⟩ := s.open hM
  rcases hk.2 with ⟨rfl, rfl, _⟩ | ⟨g, cap, cur, rfl, hnc, hcm, hcs, htake, hkk⟩
  · have hx : xs = [] := List.eq_nil_of_length_eq_zero (by simpa using hxl)
    subst hx
    by_cases hm : mm = 0
    · subst hm
      have hn : news = [] := List.eq_nil_of_length_eq_zero (by simpa using hl)
      subst hn
      refine ⟨.slice none 0 0, w, ?_, ?_⟩
      · simp [Builtin.append_, run_underlying ht, sizeOf, typeInfo, hi, Builtin.lenOf, Builtin.firstCells, loadCells, loadCellsFrom]
      · simpa [list_set_same hM] using s
    · have hr := run_append_nil (P := P) w t ty e inf zv ht hi hz a mm cc news hl hnews (by omega) (by omega) (by have hb := hb; simp only [Nat.zero_add] at hb; omega)
      have hgr := grown_own (xs := []) (nn := 0) (old := 0) tf s hM (by simp) hl hmx
      simp only [Nat.zero_add, List.nil_append, Array.empty_append] at hgr ⊢
      exact ⟨_, _, hr, hgr⟩
  · have s5 := back (blk g (.cells cur e (0, 0))) hkk
    have hM5 : (M.set i (blk g (.cells cur e (0, 0))))[i]? = some (blk g (.cells cur e (0, 0))) := get_set hM
    have hg := s5.block hM5
    by_cases hroom : nn + mm ≤ cap
    · have hfit : nn * inf.size + news.length ≤ cur.size := by rw [hl, hcs, ← Nat.add_mul]; exact Nat.mul_le_mul_right _ hroom
      have hr := run_append_room (P := P) w t ty e inf ht hi g nn cap cur hg a mm cc news hl hnews h1' hroom hfit
      refine ⟨_, _, hr, ?_⟩
      have s6 := s5.write (w' := w.setRow g (cur.toList.take (nn * inf.size) ++ news ++ cur.toList.drop (nn * inf.size + news.length)).toArray) hM5 rfl rfl rfl (setRow_heap w g cur _ e _ hg) fun j hj _ => setRow_other w g j _ hj
      have hl2 : (xs ++ news).length = (nn + mm) * inf.size := by rw [List.length_append, hxl, hl, Nat.add_mul]
      have s7 := s6.weaken (get_set hM5) (oslnew (k := inf.size) (xs := xs ++ news) (nn := nn + mm) (cap := cap) hl2 hroom hcm (by
        simp only [List.size_toArray, List.length_append, List.length_take, List.length_drop, Array.length_toList]; omega) (by rw [htake, ← hl2]; exact List.take_left))
      simpa only [List.set_set] using s7
    · have holds : ∀ j u, xs[j]? = some u → w.cell? ((⟨g, 0, none⟩ : Addr).add j) = some u := fun j u hj => by
        have hj' : j < nn * inf.size := by rw [← hxl]; exact (List.getElem?_eq_some_iff.1 hj).1
        rw [← htake, List.getElem?_take_of_lt hj'] at hj
        rw [Addr.add_lit]
        simpa [World.cell?, hg] using hj
      have hr := run_append_grow (P := P) w t ty e inf zv ht hi hz ⟨g, 0, none⟩ nn cap xs hxl holds a mm cc news hl hnews (by omega) (by omega) (growslice_fits (by omega) hb)
      exact ⟨_, _, hr, grown_own (old := cap) tf s hM hxl hl hmx⟩
def Src (S : World → Prop) (a : Addr) (news : List Value) : Prop := ∀ w, S w → ∀ j u, news[j]? = some u → w.cell? (a.add j) = some u
theorem src_blk {b o : Nat} {l : List Value} (hb : Blk S b l) (hv : ∀ j u, news[j]? = some u → l[o + j]? = some u) : Src S ⟨b, o, none⟩ news := fun w hs j u hj => by
  obtain ⟨t, fz, h⟩ := hb w hs
  rw [Addr.add_lit, cell_of h]
  exact hv j u hj
theorem src_all {b : Nat} {l : List Value} (hb : Blk S b l) : Src S ⟨b, 0, none⟩ l := src_blk hb (at_all l)
theorem ef_append {t nn mm cc : Nat} {d : Option Nat} {a : Addr} (ht : P.underlying t = some (.slice e)) (tf : TF P e k by_ zv) (hx : ev L x = some v) (hM : M[i]? = some (osl e k v nn xs))
    (hy : ev L y = some (.slice (some a) mm cc)) (hsrc : Src (Sat G I R M) a news) (hl : news.length = mm * k) (h1 : news.all one1 = true) (hb : (nn + mm) * by_ ≤ 140737488355328) (hmax : nn + mm ≤ 4611686018427387904) (hd : dstOk n d = true) :
    Ef P n Q d (.call { callee := .builtin .append, args := [x, y].toArray, argTypes := [t, t].toArray }) T L G I R M
      (fun L' I' M' => ∃ v', L' = putL L d v' ∧ I' = I ∧ M' = M.set i (osl e k v' (nn + mm) (xs ++ news))) := by
  intro pos af gd a' w next s hk
  obtain ⟨v', w', hr, s'⟩ := append_own (ty := T) (cc := cc) ht tf s.sat hM hl (hsrc w s.sat) (by simpa using h1) hb hmax
  have hrun : (execOp a'.eval ⟨d, .call { callee := .builtin .append, args := [x, y].toArray, argTypes := [t, t].toArray }, T, pos, af, gd⟩).run P w = .ok (.value v') w' := by
    simp only [execOp, resolve, invoke, builtin, Sem.run_bind, Sem.run_pure, Result.andThen_ok, List.map_toArray, List.map_cons, List.map_nil, s.fr.val hx, s.fr.val hy, hr]
  unfold Oper.wp
  rw [hrun]
  exact hk _ I _ ⟨v', rfl, rfl, rfl⟩ _ _ ((s.world s').putO hd _)

/-! ### A string's bytes behind an own slice of bytes -/
def u8v (b : UInt8) : Value := .int .u8 b.toNat
def u8s (l : List UInt8) : List Value := l.map u8v
theorem u8s_str (l : List UInt8) : strCells (bs l) = u8s l := rfl
theorem u8s_append (l m : List UInt8) : u8s (l ++ m) = u8s l ++ u8s m := by simp [u8s]
theorem u8s_length (l : List UInt8) : (u8s l).length = l.length := by simp [u8s]
theorem append_own_str {t us ty nn : Nat} {l : List UInt8} (ht : P.underlying t = some (.slice e)) (hu : P.underlying us = some .string) (tf : TF P e 1 1 (.int .u8 0)) (s : Sat G I R M w) (hM : M[i]? = some (osl e 1 v nn xs))
    (hb : nn + l.length ≤ 140737488355328) :
    ∃ v' w', (Builtin.append_ #[t, us] ty #[v, .string (bs l)]).run P w = .ok v' w' ∧ Sat G I R (M.set i (osl e 1 v' (nn + l.length) (xs ++ u8s l))) w' := by
  obtain ⟨inf, hi, hsz, hby, hz⟩ := tf.info
  have hmx : nn + l.length ≤ maxLen := by simp only [maxLen]; omega
  have hxl : xs.length = nn * 1 := s.says hM fun h a => a.1
  have hl : (u8s l).length = l.length * 1 := by rw [u8s_length, Nat.mul_one]
  have hss : (bs l).size = l.length := rfl
  obtain ⟨kk, hk, back⟩ := s.open hM
  rcases hk.2 with ⟨rfl, rfl, _⟩ | ⟨g, cap, cur, rfl, hnc, hcm, hcs, htake, hkk⟩
  · have hx : xs = [] := List.eq_nil_of_length_eq_zero (by simpa using hxl)
    subst hx
    by_cases hm : l.length = 0
    · have hn : l = [] := List.eq_nil_of_length_eq_zero hm
      subst hn
      refine ⟨.slice none 0 0, w, ?_, ?_⟩
      · simp [Builtin.append_, run_underlying ht, run_underlying hu, sizeOf, typeInfo, hi, Builtin.lenOf, Builtin.firstCells, bs_size]
      · simpa [list_set_same hM, u8s] using s
    · have hr := run_append_nil_string (P := P) w t us ty e inf (.int .u8 0) ht hu hi hz (bs l) (by rw [hss]; omega) (by rw [hss]; omega) (by rw [hby, hss]; omega)
      have hgr := grown_own (xs := []) (nn := 0) (old := 0) tf s hM (by simp) hl hmx
      simp only [Nat.zero_add, List.nil_append, Array.empty_append, hss] at hgr hr ⊢
      refine ⟨_, _, hr, ?_⟩
      have e1 : (bs l).data.map (fun b => Value.int .u8 b.toNat) = (u8s l).toArray := by simp [u8s, u8v]
      rw [e1]
      exact hgr
  · have s5 := back (blk g (.cells cur e (0, 0))) hkk
    have hM5 : (M.set i (blk g (.cells cur e (0, 0))))[i]? = some (blk g (.cells cur e (0, 0))) := get_set hM
    have hg := s5.block hM5
    rw [Nat.mul_one] at hcs htake hxl
    by_cases hroom : nn + l.length ≤ cap
    · have hr := run_append_room_string (P := P) w t us ty e inf ht hu hi hsz g nn cap cur hg (bs l) hroom (by rw [hss]; omega)
      rw [hss, u8s_str] at hr
      refine ⟨_, _, hr, ?_⟩
      have s6 := s5.write (w' := w.setRow g (cur.toList.take nn ++ u8s l ++ cur.toList.drop (nn + l.length)).toArray) hM5 rfl rfl rfl (setRow_heap w g cur _ e _ hg) fun j hj _ => setRow_other w g j _ hj
      have hl2 : (xs ++ u8s l).length = (nn + l.length) * 1 := by rw [List.length_append, hxl, u8s_length, Nat.mul_one]
      have s7 := s6.weaken (get_set hM5) (oslnew (k := 1) (xs := xs ++ u8s l) (nn := nn + l.length) (cap := cap) hl2 hroom hcm (by
        simp only [List.size_toArray, List.length_append, List.length_take, List.length_drop, Array.length_toList, u8s_length]; omega) (by rw [htake, ← hl2]; exact List.take_left))
      simpa only [List.set_set] using s7
    · have holds : ∀ j u, xs[j]? = some u → w.cell? ((⟨g, 0, none⟩ : Addr).add j) = some u := fun j u hj => by
        have hj' : j < nn := by rw [← hxl]; exact (List.getElem?_eq_some_iff.1 hj).1
        rw [← htake, List.getElem?_take_of_lt hj'] at hj
        rw [Addr.add_lit]
        simpa [World.cell?, hg] using hj
      have hr := run_append_grow_string (P := P) w t us ty e inf (.int .u8 0) ht hu hi hz ⟨g, 0, none⟩ nn cap xs (by rw [hsz, Nat.mul_one]; exact hxl) holds (bs l) (by rw [hss]; omega) (by rw [hss]; omega) (growslice_fits (by rw [hss]; omega) (by rw [hby, hss]; omega))
      rw [hss, u8s_str] at hr
      exact ⟨_, _, hr, grown_own (old := cap) tf s hM (by rw [Nat.mul_one]; exact hxl) hl hmx⟩
theorem ef_append_str {t us nn : Nat} {d : Option Nat} {l : List UInt8} (ht : P.underlying t = some (.slice e)) (hu : P.underlying us = some .string) (tf : TF P e 1 1 (.int .u8 0)) (hx : ev L x = some v) (hM : M[i]? = some (osl e 1 v nn xs))
    (hy : ev L y = some (.string (bs l))) (hb : nn + l.length ≤ 140737488355328) (hd : dstOk n d = true) :
    Ef P n Q d (.call { callee := .builtin .append, args := [x, y].toArray, argTypes := [t, us].toArray }) T L G I R M
      (fun L' I' M' => ∃ v', L' = putL L d v' ∧ I' = I ∧ M' = M.set i (osl e 1 v' (nn + l.length) (xs ++ u8s l))) := by
  intro pos af gd a' w next s hk
  obtain ⟨v', w', hr, s'⟩ := append_own_str (ty := T) ht hu tf s.sat hM hb
  have hrun : (execOp a'.eval ⟨d, .call { callee := .builtin .append, args := [x, y].toArray, argTypes := [t, us].toArray }, T, pos, af, gd⟩).run P w = .ok (.value v') w' := by
    simp only [execOp, resolve, invoke, builtin, Sem.run_bind, Sem.run_pure, Result.andThen_ok, List.map_toArray, List.map_cons, List.map_nil, s.fr.val hx, s.fr.val hy, hr]
  unfold Oper.wp
  rw [hrun]
  exact hk _ I _ ⟨v', rfl, rfl, rfl⟩ _ _ ((s.world s').putO hd _)

/-! ### Bytes of a string, and a string of bytes -/
theorem foldl_u8 : ∀ (l : List UInt8) (r : ByteArray), (l.map (fun b => (b.toNat : Int))).foldl (fun r n => r.push (UInt8.ofNat n.toNat)) r = ⟨r.data ++ l.toArray⟩ := foldl_push_byteCells
theorem y_tostr {s t m o b c : Nat} {l : List Value} {bytes : List UInt8} (hs : P.underlying s = some (.slice e)) (he : P.underlying e = some (.int .u8)) (hd : P.underlying t = some .string)
    (hx : ev L x = some (.slice (some ⟨b, o, none⟩) m c)) (hb : Blk S b l) (hm : bytes.length = m) (hv : ∀ j q, bytes[j]? = some q → l[o + j]? = some (u8v q)) :
    Y P (.convert s t x) T L S (.string (bs bytes)) := fun _ _ _ _ a w f hS => by
  obtain ⟨t', fz, h⟩ := hb w hS
  have h1 : (loadCells ⟨b, o, none⟩ m).run P w = .ok ((bytes.map fun q => (q.toNat : Int)).map (Value.int .u8)).toArray w := by
    refine run_loadCells_of h (by simp [hm]) fun j u hj => ?_
    simp only [List.getElem?_map, Option.map_map, Option.map_eq_some_iff, Function.comp] at hj
    obtain ⟨q, hq, rfl⟩ := hj
    exact hv j q hq
  have h2 : (convert s t (.slice (some ⟨b, o, none⟩) m c)).run P w = .ok (.string (bs bytes)) w := by
    rw [run_convert_bytes_string w s t e _ _ _ hs he hd, run_bytesToString w _ m c _ h1, foldl_u8]
    simp [ByteArray.empty, ByteArray.emptyWithCapacity]; rfl
  simp [execOp, f.val hx, h2]
theorem y_tostr_nil {s t m c : Nat} (hs : P.underlying s = some (.slice e)) (he : P.underlying e = some (.int .u8)) (hd : P.underlying t = some .string)
    (hx : ev L x = some (.slice none m c)) : Y P (.convert s t x) T L S (.string (bs [])) := fun _ _ _ _ a w f hS => by
  have h2 : (convert s t (.slice none m c)).run P w = .ok (.string (bs [])) w := by
    rw [run_convert_bytes_string w s t e _ _ _ hs he hd]
    simp [Conv.bytesToString, ByteArray.empty, ByteArray.emptyWithCapacity]; rfl
  simp [execOp, f.val hx, h2]
/-- An own slice of bytes as a string. -/
theorem y_tostr_own {s t nn : Nat} {bytes : List UInt8} (hs : P.underlying s = some (.slice e)) (he : P.underlying e = some (.int .u8)) (hd : P.underlying t = some .string)
    (hx : ev L x = some v) (hM : M[i]? = some (osl e 1 v nn (u8s bytes))) : Y P (.convert s t x) T L (Sat G I R M) (.string (bs bytes)) := fun d pos af gd a w f hS => by
  obtain ⟨kk, hk, back⟩ := hS.open hM
  have hlen := hk.1
  rw [u8s_length, Nat.mul_one] at hlen
  rcases hk.2 with ⟨rfl, rfl, _⟩ | ⟨g, cap, cur, rfl, hnc, hcm, hcs, htake, hkk⟩
  · have : bytes = [] := List.eq_nil_of_length_eq_zero hlen
    subst this
    exact y_tostr_nil (S := fun _ => True) (T := T) hs he hd hx d pos af gd a w f trivial
  · have s5 := back (blk g (.cells cur e (0, 0))) hkk
    have hg := s5.block (get_set hM)
    refine y_tostr (S := fun w' => w'.heap[g]? = some (.cells cur e (0, 0))) (l := cur.toList) (o := 0) hs he hd hx (fun w' h => ⟨e, (0, 0), by simpa using h⟩) hlen (fun j q hq => ?_) d pos af gd a w f hg
    rw [Nat.mul_one] at htake
    have hj : j < nn := by rw [← hlen]; exact (List.getElem?_eq_some_iff.1 hq).1
    have h1 : (u8s bytes)[j]? = some (u8v q) := by simp [u8s, hq]
    rw [← htake, List.getElem?_take_of_lt hj] at h1
    simpa using h1
theorem ef_tobytes {s t d : Nat} {l : List UInt8} (hs : P.underlying s = some .string) (hd : P.underlying t = some (.slice e)) (he : P.underlying e = some (.int .u8)) (hx : ev L x = some (.string (bs l))) (hdd : Nat.blt d n = true) :
    Ef P n Q (some d) (.convert s t x) T L G I R M (fun L' I' M' => ∃ b c junk, L' = (d, .slice (some ⟨b, 0, none⟩) l.length c) :: L ∧ I' = I ∧ M' = M ++ [cl b e (u8s l ++ junk)]) := by
  intro pos af gd a w next st hk
  have hr := run_bytes_of_string (P := P) w s t e (bs l) hs hd he
  have e1 : bytesRow (bs l) (grownCap w (bs l).size 0 e) = (u8s l ++ List.replicate (grownCap w l.length 0 e - l.length) (Value.int .u8 0)).toArray := by
    apply Array.ext'
    simp [bytesRow, u8s, u8v, bs_size]
  rw [e1] at hr
  simp only [Oper.wp, execOp, st.fr.val hx, Sem.run_bind, hr, Result.andThen_ok, Sem.run_pure]
  refine hk _ I _ ⟨w.heap.size, grownCap w l.length 0 e, List.replicate (grownCap w l.length 0 e - l.length) (Value.int .u8 0), rfl, rfl, rfl⟩ _ _ ((st.world ?_).put hdd _)
  have s1 := st.sat.drew.alloc (.cells (u8s l ++ List.replicate (grownCap w l.length 0 e - l.length) (Value.int .u8 0)).toArray e ((u8s l ++ List.replicate (grownCap w l.length 0 e - l.length) (Value.int .u8 0)).toArray.size, (u8s l ++ List.replicate (grownCap w l.length 0 e - l.length) (Value.int .u8 0)).toArray.size + 1))
  have s2 := s1.weaken (i := M.length) (e' := cl w.heap.size e (u8s l ++ List.replicate (grownCap w l.length 0 e - l.length) (Value.int .u8 0))) (by rw [List.getElem?_concat_length]; rfl) fun k hk => ⟨_, .inl (by simp), hk⟩
  simpa using s2
/-- make([]T, n): noughts. -/
theorem ef_make {t d : Nat} {kl kc : IntKind} {m : Nat} {lv cv : Operand} (ht : P.underlying t = some (.slice e)) (tf : TF P e k by_ zv) (hx : ev L lv = some (.int kl m)) (hy : ev L cv = some (.int kc m))
    (hb : by_ * m ≤ 281474976710656) (hm : m ≤ 4611686018427387904) (hd : Nat.blt d n = true) :
    Ef P n Q (some d) (.makeSlice t lv cv) T L G I R M (fun L' I' M' => ∃ b, L' = (d, .slice (some ⟨b, 0, none⟩) m m) :: L ∧ I' = I ∧ M' = M ++ [cl b e (madeCells zv.cells (m * k)).toList]) := by
  intro pos af gd a w next s hk
  obtain ⟨inf, hi, hsz, hby, hz⟩ := tf.info
  subst hsz hby
  have hr : (Instr.makeSlice t (.int kl (m : Int)) (.int kc (m : Int))).run P w = .ok (.slice (some ⟨w.heap.size, 0, none⟩) m m) (w.alloc (.cells (madeCells zv.cells (m * inf.size)) e)) := by
    have h1 : (m : Int) ≤ 9223372036854775807 := by omega
    have h2 : ¬ (281474976710656 < (inf.bytes : Int) * (m : Int)) := by
      have h : ((inf.bytes * m : Nat) : Int) ≤ 281474976710656 := by omega
      simpa using h
    have hw : IntKind.i64.wrap (m : Int) = m := IntWalk.i64_in _ ⟨by omega, by omega⟩
    have h3 : ¬ ((m : Int) < 0) := by omega
    by_cases h4 : m * inf.size = 0 <;> simp [Instr.makeSlice, run_underlying ht, asInt, asIntOf, typeInfo, hi, hz, zeroValue, hw, h2, h3, h4, sizeOf, newRow, madeCells, Array.range_zero']
  unfold Oper.wp
  have hrun : (execOp a.eval ⟨some d, .makeSlice t lv cv, T, pos, af, gd⟩).run P w = .ok (.value (.slice (some ⟨w.heap.size, 0, none⟩) m m)) (w.alloc (.cells (madeCells zv.cells (m * inf.size)) e)) := by
    simp only [execOp, s.fr.val hx, s.fr.val hy, Sem.run_bind, hr, Result.andThen_ok, Sem.run_pure]
  rw [hrun]
  have s1 := s.sat.alloc_cl (t := e) (l := (madeCells zv.cells (m * inf.size)).toList)
  rw [Array.toArray_toList] at s1
  exact hk _ I _ ⟨w.heap.size, rfl, rfl, rfl⟩ _ _ ((s.world s1).put hd _)
end
end Go.Proofs.YtnccebppgmnmfaaS
