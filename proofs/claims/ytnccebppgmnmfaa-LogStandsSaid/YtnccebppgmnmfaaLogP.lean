/- Disks and logs as lists of bytes: what stands, what is written over. Plain Lean. -/
import Derived.Test.YtnccebppgmnmfaaCrc
set_option linter.unusedVariables false
set_option linter.unusedSimpArgs false
namespace Go.Proofs.YtnccebppgmnmfaaS
abbrev By := List UInt8
def zs (n : Nat) : By := List.replicate n 0
theorem zs_len (n : Nat) : (zs n).length = n := by simp [zs]
theorem zs_add (a b : Nat) : zs a ++ zs b = zs (a + b) := by simp [zs, List.replicate_append_replicate]
theorem drop_zs (a b : Nat) : (zs a).drop b = zs (a - b) := by simp [zs]
theorem take_zs (a b : Nat) : (zs a).take b = zs (min b a) := by simp [zs]
/-! ### Records -/
def mk (r : By) : By := fixed r.length 2 true ++ fixed (crcSum (fixed r.length 2 true ++ r)) 4 true ++ r
theorem mk_len (r : By) : (mk r).length = 6 + r.length := by simp [mk, fixed_length]; omega
def oneF (b : By) : By :=
  if b.length < 6 then [] else if val (b.take 2) < 1 ∨ val (b.take 2) > 4000 ∨ val (b.take 2) > b.length - 6 then [] else
  if mk ((b.take (6 + val (b.take 2))).drop 6) = b.take (6 + val (b.take 2)) then (b.take (6 + val (b.take 2))).drop 6 else []
theorem oneF_len (b : By) : (oneF b).length ≤ b.length := by
  unfold oneF; split
  · simp
  · split
    · simp
    · split <;> simp <;> omega
theorem oneF_six {b : By} (h : oneF b ≠ []) : 6 + (oneF b).length ≤ b.length := by
  unfold oneF at h ⊢; split
  · rename_i h1; rw [if_pos h1] at h; exact absurd rfl h
  · rename_i h1; rw [if_neg h1] at h; split
    · rename_i h2; rw [if_pos h2] at h; exact absurd rfl h
    · rename_i h2; rw [if_neg h2] at h; split
      · simp; omega
      · rename_i h3; rw [if_neg h3] at h; exact absurd rfl h
def standsF (b : By) : List By := if h : oneF b = [] then [] else oneF b :: standsF (b.drop (6 + (oneF b).length))
termination_by b.length
decreasing_by have := oneF_six h; simp; omega
def endF (b : By) : Nat := if h : oneF b = [] then 0 else 6 + (oneF b).length + endF (b.drop (6 + (oneF b).length))
termination_by b.length
decreasing_by have := oneF_six h; simp; omega
theorem stands_nil {b : By} (h : oneF b = []) : standsF b = [] := by rw [standsF, dif_pos h]
theorem stands_cons {b : By} (h : oneF b ≠ []) : standsF b = oneF b :: standsF (b.drop (6 + (oneF b).length)) := by rw [standsF, dif_neg h]
theorem end_nil {b : By} (h : oneF b = []) : endF b = 0 := by rw [endF, dif_pos h]
theorem end_cons {b : By} (h : oneF b ≠ []) : endF b = 6 + (oneF b).length + endF (b.drop (6 + (oneF b).length)) := by rw [endF, dif_neg h]
theorem end_le (b : By) : endF b ≤ b.length := by
  induction hn : b.length using Nat.strongRecOn generalizing b with
  | _ n ih =>
    by_cases h : oneF b = []
    · rw [end_nil h]; exact Nat.zero_le _
    · have h1 := oneF_six h
      have h2 := ih _ (by rw [← hn]; simp; omega) (b.drop (6 + (oneF b).length)) rfl
      rw [end_cons h]; simp only [List.length_drop] at h2; omega
/-- What a loop over records knows. -/
structure StAt (s b : By) (o : List By) (a : Nat) : Prop where
  dr : b = s.drop a
  le : a ≤ s.length
  st : o ++ standsF b = standsF s
  en : a + endF b = endF s
theorem StAt.zero (s : By) : StAt s s [] 0 := ⟨rfl, Nat.zero_le _, rfl, Nat.zero_add _⟩
theorem StAt.next {s b : By} {o : List By} {a : Nat} (h : StAt s b o a) (h1 : oneF b ≠ []) : StAt s (b.drop (6 + (oneF b).length)) (o ++ [oneF b]) (a + (6 + (oneF b).length)) := by
  have h2 := oneF_six h1
  have h3 := h.dr
  refine ⟨by rw [h3, List.drop_drop], ?_, ?_, ?_⟩
  · have : b.length = s.length - a := by rw [h3]; simp
    have := h.le; omega
  · rw [← h.st, stands_cons h1, List.append_assoc]; rfl
  · rw [← h.en, end_cons h1]; omega
theorem StAt.fin {s b : By} {o : List By} {a : Nat} (h : StAt s b o a) (h1 : oneF b = []) : o = standsF s ∧ a = endF s := by
  have h2 := h.st; have h3 := h.en
  rw [stands_nil h1, List.append_nil] at h2; rw [end_nil h1] at h3
  exact ⟨h2, h3⟩
theorem val_fixed2 (n : Nat) (h : n < 65536) : val (fixed n 2 true) = n := by
  have e : fixed n 2 true = [byteAt n 1, byteAt n 0] := rfl
  rw [e]
  simp only [val, List.foldl, byteAt, UInt8.toNat_ofNat']
  omega
theorem fixed_take (r x : By) : ((mk r ++ x).take 2) = fixed r.length 2 true := by
  unfold mk
  rw [List.append_assoc, List.append_assoc, List.take_append_of_le_length (by simp [fixed_length]), List.take_of_length_le (by simp [fixed_length])]
theorem oneF_mk (r x : By) (h1 : r ≠ []) (h2 : r.length ≤ 4000) : oneF (mk r ++ x) = r := by
  have h0 := List.length_pos_iff.2 h1
  have hl := mk_len r
  have hv : val ((mk r ++ x).take 2) = r.length := by rw [fixed_take, val_fixed2 _ (by omega)]
  have ht : (mk r ++ x).take (6 + r.length) = mk r := by rw [List.take_append_of_le_length (by omega), List.take_of_length_le (by omega)]
  have hd : (mk r).drop 6 = r := by
    unfold mk
    exact List.drop_left' (by simp [fixed_length])
  unfold oneF
  rw [if_neg (by rw [List.length_append]; omega), hv, if_neg (by rw [List.length_append]; omega), ht, hd, if_pos rfl]
theorem zs_get (n i : Nat) (h : i < n) : (zs n)[i]? = some 0 := by simp [zs, h]
theorem oneF_zs (n : Nat) : oneF (zs n) = [] := by
  unfold oneF
  rw [zs_len]
  by_cases h : n < 6
  · rw [if_pos h]
  · rw [if_neg h]
    have e : (zs n).take 2 = [0, 0] := by rw [take_zs]; have : min 2 n = 2 := by omega
                                          rw [this]; rfl
    rw [e, if_pos (Or.inl (by decide))]
theorem stands_zs (n : Nat) : standsF (zs n) = [] ∧ endF (zs n) = 0 := ⟨stands_nil (oneF_zs n), end_nil (oneF_zs n)⟩
def joinR (l : List By) : By := (l.map mk).flatten
theorem joinR_snoc (l : List By) (r : By) : joinR (l ++ [r]) = joinR l ++ mk r := by simp [joinR]
theorem stands_join : ∀ (l : List By) (n : Nat), (∀ r ∈ l, r ≠ [] ∧ r.length ≤ 4000) → standsF (joinR l ++ zs n) = l ∧ endF (joinR l ++ zs n) = (joinR l).length
  | [], n, _ => by simpa [joinR] using stands_zs n
  | r :: l, n, h => by
    obtain ⟨h1, h2⟩ := h r (by simp)
    obtain ⟨i1, i2⟩ := stands_join l n fun q hq => h q (by simp [hq])
    have e : joinR (r :: l) ++ zs n = mk r ++ (joinR l ++ zs n) := by simp [joinR]
    have o := oneF_mk r (joinR l ++ zs n) h1 h2
    have d : (mk r ++ (joinR l ++ zs n)).drop (6 + r.length) = joinR l ++ zs n := List.drop_left' (mk_len r)
    rw [e, stands_cons (by rw [o]; exact h1), end_cons (by rw [o]; exact h1), o, d, i1, i2]
    refine ⟨rfl, ?_⟩
    simp [joinR, mk_len]
/-! ### Sectors -/
def sec (F : By) (i : Nat) : By := (F.drop (64 * i)).take 64
def ovl (F : By) (p : Nat) (r : By) : By := F.take p ++ r ++ F.drop (p + r.length)
theorem ovl_len {F : By} {p : Nat} {r : By} (h : p + r.length ≤ F.length) : (ovl F p r).length = F.length := by
  simp [ovl]; omega
theorem sec_len {F : By} {n i : Nat} (h : F.length = 64 * n) (hi : i < n) : (sec F i).length = 64 := by
  simp [sec]; omega
theorem ovl_get {F : By} {p : Nat} {r : By} (h : p + r.length ≤ F.length) (j : Nat) : (ovl F p r)[j]? = if j < p then F[j]? else if j < p + r.length then r[j - p]? else F[j]? := by
  unfold ovl
  by_cases h1 : j < p
  · rw [if_pos h1, List.append_assoc, List.getElem?_append_left (by simp; omega), List.getElem?_take_of_lt h1]
  · rw [if_neg h1]
    have hp : (F.take p).length = p := by simp; omega
    by_cases h2 : j < p + r.length
    · rw [if_pos h2, List.append_assoc, List.getElem?_append_right (by omega), hp, List.getElem?_append_left (by omega)]
    · rw [if_neg h2, List.getElem?_append_right (by simp; omega), List.getElem?_drop]
      simp only [List.length_append, hp]
      congr 1; omega
theorem ovl_ovl {F r q : By} {p : Nat} (h : p + r.length + q.length ≤ F.length) : ovl (ovl F p r) (p + r.length) q = ovl F p (r ++ q) := by
  apply List.ext_getElem?
  intro j
  have hl := ovl_len (F := F) (p := p) (r := r) (by omega)
  rw [ovl_get (by rw [hl]; omega), ovl_get (by omega), ovl_get (by rw [List.length_append]; omega), List.length_append]
  by_cases h1 : j < p
  · rw [if_pos (by omega), if_pos h1, if_pos h1]
  · by_cases h2 : j < p + r.length
    · rw [if_pos h2, if_neg h1, if_pos h2, if_neg h1, if_pos (by omega), List.getElem?_append_left (by omega)]
    · by_cases h3 : j < p + r.length + q.length
      · rw [if_neg h2, if_pos h3, if_neg h1, if_pos (by omega), List.getElem?_append_right (by omega)]
        congr 1; omega
      · rw [if_neg h2, if_neg h3, if_neg h1, if_neg h2, if_neg h1, if_neg (by omega)]
/-- One sector, written over in a part. -/
theorem ovl_sec {F b : By} {n i from_ : Nat} (h : F.length = 64 * n) (hi : i < n) (hb : from_ + b.length ≤ 64) :
    ovl F (64 * i) ((sec F i).take from_ ++ b ++ (sec F i).drop (from_ + b.length)) = ovl F (64 * i + from_) b := by
  have hs := sec_len h hi
  have e : (sec F i).take from_ ++ b ++ (sec F i).drop (from_ + b.length) = ovl (sec F i) from_ b := rfl
  rw [e]
  have hL : (ovl (sec F i) from_ b).length = 64 := by rw [ovl_len (by omega), hs]
  apply List.ext_getElem?
  intro j
  rw [ovl_get (F := F) (r := ovl (sec F i) from_ b) (by omega), ovl_get (F := F) (r := b) (by omega), hL]
  have g : ∀ k, k < 64 → (sec F i)[k]? = F[64 * i + k]? := fun k hk => by
    unfold sec; rw [List.getElem?_take_of_lt hk, List.getElem?_drop]
  by_cases h1 : j < 64 * i
  · rw [if_pos h1, if_pos (by omega)]
  · rw [if_neg h1]
    by_cases h2 : j < 64 * i + 64
    · rw [if_pos h2, ovl_get (by omega)]
      by_cases h3 : j - 64 * i < from_
      · rw [if_pos h3, if_pos (by omega), g _ (by omega)]; congr 1; omega
      · have h5 : ¬ j < 64 * i + from_ := by omega
        rw [if_neg h3, if_neg h5]
        by_cases h4 : j - 64 * i < from_ + b.length
        · rw [if_pos h4, if_pos (by omega)]; congr 1; omega
        · rw [if_neg h4, if_neg (by omega), g _ (by omega)]; congr 1; omega
    · rw [if_neg h2, if_neg (by omega), if_neg (by omega)]
theorem ovl_self {F : By} {n i : Nat} (h : F.length = 64 * n) (hi : i < n) : ovl F (64 * i) (sec F i) = F := by
  have hs := sec_len h hi
  apply List.ext_getElem?
  intro j
  rw [ovl_get (by omega), hs]
  by_cases h1 : j < 64 * i
  · rw [if_pos h1]
  · rw [if_neg h1]
    by_cases h2 : j < 64 * i + 64
    · rw [if_pos h2]; unfold sec; rw [List.getElem?_take_of_lt (by omega), List.getElem?_drop]; congr 1; omega
    · rw [if_neg h2]
/-- Noughts behind an end, up to a sector. -/
def wiped (F : By) (e i : Nat) : By := F.take e ++ zs (64 * i - e) ++ F.drop (max (64 * i) e)
theorem wiped_len {F : By} {n e i : Nat} (h : F.length = 64 * n) (he : e ≤ 64 * n) (hi : i ≤ n) : (wiped F e i).length = 64 * n := by
  simp [wiped, zs_len]; omega
theorem wiped_first {F : By} {e : Nat} : wiped F e (e / 64) = F := by
  unfold wiped
  have h1 : 64 * (e / 64) - e = 0 := by omega
  have h2 : max (64 * (e / 64)) e = e := by omega
  rw [h1, h2]; simp [zs]
theorem wiped_last {F : By} {n e : Nat} (h : F.length = 64 * n) (he : e ≤ 64 * n) : wiped F e n = F.take e ++ zs (64 * n - e) := by
  unfold wiped
  have h2 : max (64 * n) e = F.length := by omega
  rw [h2, List.drop_length, List.append_nil]
theorem wiped_get {F : By} {n e i : Nat} (h : F.length = 64 * n) (he : e ≤ 64 * n) (hi : i ≤ n) (j : Nat) : (wiped F e i)[j]? = if j < e then F[j]? else if j < 64 * i then some 0 else F[j]? := by
  unfold wiped
  by_cases h1 : j < e
  · rw [if_pos h1, List.append_assoc, List.getElem?_append_left (by simp; omega), List.getElem?_take_of_lt h1]
  · rw [if_neg h1]
    have hp : (F.take e).length = e := by simp; omega
    by_cases h2 : j < 64 * i
    · rw [if_pos h2, List.append_assoc, List.getElem?_append_right (by omega), hp, List.getElem?_append_left (by rw [zs_len]; omega), zs_get _ _ (by omega)]
    · rw [if_neg h2, List.getElem?_append_right (by simp [zs_len]; omega), List.getElem?_drop]
      simp only [List.length_append, hp, zs_len]
      congr 1; omega
theorem wiped_step {F : By} {n e i from_ : Nat} (h : F.length = 64 * n) (he : e ≤ 64 * n) (hi : i < n) (h0 : e / 64 ≤ i) (hf : from_ = e - 64 * i) :
    ovl (wiped F e i) (64 * i) ((sec (wiped F e i) i).take from_ ++ zs (64 - from_)) = wiped F e (i + 1) := by
  have hl := wiped_len h he (i := i) (by omega)
  have hs := sec_len hl hi
  have hL : ((sec (wiped F e i) i).take from_ ++ zs (64 - from_)).length = 64 := by simp [hs, zs_len]; omega
  apply List.ext_getElem?
  intro j
  rw [ovl_get (by omega), hL, wiped_get h he (by omega), wiped_get h he (by omega)]
  by_cases h1 : j < 64 * i
  · rw [if_pos h1]
    by_cases h2 : j < e
    · rw [if_pos h2, if_pos h2]
    · rw [if_neg h2, if_neg h2, if_pos h1, if_pos (by omega)]
  · rw [if_neg h1]
    by_cases h2 : j < 64 * i + 64
    · rw [if_pos h2]
      by_cases h3 : j < e
      · rw [if_pos h3, List.getElem?_append_left (by simp [hs]; omega), List.getElem?_take_of_lt (by omega)]
        unfold sec
        rw [List.getElem?_take_of_lt (by omega), List.getElem?_drop, wiped_get h he (by omega), if_pos (by omega)]
        congr 1; omega
      · rw [if_neg h3, if_pos (by omega), List.getElem?_append_right (by simp [hs]; omega), zs_get]
        simp [hs]; omega
    · rw [if_neg h2, if_neg h1]
      by_cases h3 : j < e
      · rw [if_pos h3, if_pos h3]
      · rw [if_neg h3, if_neg h3, if_neg (by omega)]
/-! ### A disk's writes that wait -/
abbrev Wr := Nat × By
def fixS (s : By) : By := if s = [] then zs 64 else s
def putW (c : List By) (W : List Wr) : List By := W.foldl (fun c x => c.set x.1 x.2) c
def cont (S : List By) (W : List Wr) : List By := putW (S.map fixS) W
theorem putW_len : ∀ (W : List Wr) (c : List By), (putW c W).length = c.length
  | [], c => rfl
  | x :: W, c => by rw [putW, List.foldl_cons]; show (putW (c.set x.1 x.2) W).length = _; rw [putW_len W, List.length_set]
theorem cont_len (S : List By) (W : List Wr) : (cont S W).length = S.length := by rw [cont, putW_len, List.length_map]
theorem putW_snoc (c : List By) (W : List Wr) (x : Wr) : putW c (W ++ [x]) = (putW c W).set x.1 x.2 := by simp [putW]
theorem putW_none {i : Nat} : ∀ (W : List Wr) (c : List By), (∀ x ∈ W, x.1 ≠ i) → (putW c W)[i]? = c[i]?
  | [], c, _ => rfl
  | x :: W, c, h => by
    rw [putW, List.foldl_cons]
    show (putW (c.set x.1 x.2) W)[i]? = _
    rw [putW_none W _ fun y hy => h y (by simp [hy]), List.getElem?_set_ne (h x (by simp))]
/-- The last write of a place is what it has. -/
theorem putW_at {i k : Nat} {b : By} {W : List Wr} {c : List By} (h : W[k]? = some (i, b)) (hi : i < c.length) (hl : ∀ j y, k < j → W[j]? = some y → y.1 ≠ i) : (putW c W)[i]? = some b := by
  have hk := (List.getElem?_eq_some_iff.1 h).1
  have e : W = W.take k ++ [(i, b)] ++ W.drop (k + 1) := by
    rw [List.append_assoc]
    conv => lhs; rw [← List.take_append_drop k W]
    rw [List.drop_eq_getElem_cons hk]
    rw [List.getElem?_eq_getElem hk] at h
    simp only [Option.some.injEq] at h
    rw [h]; rfl
  have e2 : putW c W = putW (putW c (W.take k ++ [(i, b)])) (W.drop (k + 1)) := by
    conv => lhs; rw [e]
    simp [putW]
  rw [e2, putW_none, putW_snoc, List.getElem?_set_self (by rw [putW_len]; exact hi)]
  intro x hx
  obtain ⟨j, hj⟩ := List.mem_iff_getElem?.1 hx
  rw [List.getElem?_drop] at hj
  exact hl _ x (by omega) hj
/-- What a disk is made of, and the bytes that it shows. -/
structure DOk (S : List By) (W : List Wr) (F : By) : Prop where
  flat : F = (cont S W).flatten
  sure : ∀ s ∈ S, s = [] ∨ s.length = 64
  wr : ∀ x ∈ W, x.1 < S.length ∧ x.2.length = 64
theorem fixS_len {s : By} (h : s = [] ∨ s.length = 64) : (fixS s).length = 64 := by
  unfold fixS; split
  · exact zs_len 64
  · rename_i h1; exact h.resolve_left h1
theorem putW_all {p : By → Prop} : ∀ (W : List Wr) (c : List By), (∀ s ∈ c, p s) → (∀ x ∈ W, p x.2) → ∀ s ∈ putW c W, p s
  | [], c, h, _ => h
  | x :: W, c, h, hw => by
    rw [putW, List.foldl_cons]
    refine putW_all W _ (fun s hs => ?_) fun y hy => hw y (by simp [hy])
    rcases List.mem_or_eq_of_mem_set hs with h1 | h1
    · exact h s h1
    · rw [h1]; exact hw x (by simp)
theorem DOk.all64 {S : List By} {W : List Wr} {F : By} (h : DOk S W F) : ∀ s ∈ cont S W, s.length = 64 :=
  putW_all W _ (fun s hs => by obtain ⟨t, ht, rfl⟩ := List.mem_map.1 hs; exact fixS_len (h.sure t ht)) fun x hx => (h.wr x hx).2
theorem flat64_len : ∀ (c : List By), (∀ s ∈ c, s.length = 64) → c.flatten.length = 64 * c.length
  | [], _ => rfl
  | s :: c, h => by
    simp only [List.flatten_cons, List.length_append, List.length_cons, flat64_len c fun t ht => h t (by simp [ht]), h s (by simp)]; omega
theorem flat64_sec : ∀ (c : List By) (i : Nat) (s : By), (∀ s ∈ c, s.length = 64) → c[i]? = some s → sec c.flatten i = s
  | [], i, s, _, h => by cases h
  | t :: c, 0, s, h, e => by
    simp at e; subst e
    have := h t (by simp)
    simp only [sec, List.flatten_cons, Nat.mul_zero, List.drop_zero]
    rw [List.take_append_of_le_length (by omega), List.take_of_length_le (by omega)]
  | t :: c, i + 1, s, h, e => by
    have := h t (by simp)
    have ih := flat64_sec c i s (fun u hu => h u (by simp [hu])) (by simpa using e)
    simp only [sec, List.flatten_cons] at ih ⊢
    have e2 : 64 * (i + 1) = t.length + 64 * i := by omega
    rw [e2, List.drop_length_add_append]
    exact ih
theorem flat64_set : ∀ (c : List By) (i : Nat) (s : By), (∀ s ∈ c, s.length = 64) → s.length = 64 → i < c.length → (c.set i s).flatten = ovl c.flatten (64 * i) s
  | [], i, s, _, _, h => by simp at h
  | t :: c, 0, s, h, hs, _ => by
    have := h t (by simp)
    simp only [List.set_cons_zero, List.flatten_cons, ovl, Nat.mul_zero, List.take_zero, List.nil_append, Nat.zero_add]
    rw [List.drop_left' (by omega)]
  | t :: c, i + 1, s, h, hs, hi => by
    have := h t (by simp)
    have ih := flat64_set c i s (fun u hu => h u (by simp [hu])) hs (by simpa using hi)
    simp only [List.set_cons_succ, List.flatten_cons, ih, ovl]
    have e2 : 64 * (i + 1) = t.length + 64 * i := by omega
    have e3 : t.length + 64 * i + s.length = t.length + (64 * i + s.length) := by omega
    rw [e2, e3, List.take_length_add_append, List.drop_length_add_append]
    simp [List.append_assoc]
theorem DOk.len {S : List By} {W : List Wr} {F : By} (h : DOk S W F) : F.length = 64 * S.length := by
  rw [h.flat, flat64_len _ h.all64, cont_len]
theorem DOk.waits {S : List By} {W : List Wr} {F : By} (h : DOk S W F) {i k : Nat} {b : By} (hk : W[k]? = some (i, b)) (hl : ∀ j y, k < j → W[j]? = some y → y.1 ≠ i) : sec F i = b := by
  rw [h.flat]
  exact flat64_sec _ i b h.all64 (putW_at hk (by rw [List.length_map]; exact (h.wr _ (List.mem_of_getElem? hk)).1) hl)
theorem DOk.here {S : List By} {W : List Wr} {F : By} (h : DOk S W F) {i : Nat} {s : By} (hs : S[i]? = some s) (hl : ∀ (j : Nat) y, W[j]? = some y → y.1 ≠ i) : sec F i = fixS s := by
  rw [h.flat]
  refine flat64_sec _ i _ h.all64 ?_
  rw [cont, putW_none _ _ fun x hx => ?_]
  · simp [hs]
  · obtain ⟨j, hj⟩ := List.mem_iff_getElem?.1 hx
    exact hl j x hj
theorem DOk.write {S : List By} {W : List Wr} {F : By} (h : DOk S W F) {i : Nat} {b : By} (hi : i < S.length) (hb : b.length = 64) : DOk S (W ++ [(i, b)]) (ovl F (64 * i) b) := by
  refine ⟨?_, h.sure, fun x hx => ?_⟩
  · rw [cont, putW_snoc]
    show _ = ((cont S W).set i b).flatten
    rw [flat64_set _ _ _ h.all64 hb (by rw [cont_len]; exact hi), h.flat]
  · rcases List.mem_append.1 hx with h1 | h1
    · exact h.wr x h1
    · simp at h1; subst h1; exact ⟨hi, hb⟩
theorem putW_map : ∀ (W : List Wr) (S : List By), (∀ x ∈ W, x.2.length = 64) → (putW S W).map fixS = putW (S.map fixS) W
  | [], S, _ => rfl
  | x :: W, S, h => by
    rw [putW, putW, List.foldl_cons, List.foldl_cons]
    show (putW (S.set x.1 x.2) W).map fixS = putW ((S.map fixS).set x.1 x.2) W
    rw [putW_map W _ fun y hy => h y (by simp [hy]), List.map_set]
    have e : fixS x.2 = x.2 := by
      unfold fixS; rw [if_neg]; intro e; have := h x (by simp); rw [e] at this; cases this
    rw [e]
theorem DOk.sync {S : List By} {W : List Wr} {F : By} (h : DOk S W F) : DOk (putW S W) [] F := by
  refine ⟨?_, ?_, fun x hx => by cases hx⟩
  · rw [h.flat]; unfold cont; rw [putW_map W S fun x hx => (h.wr x hx).2]; rfl
  · exact putW_all W S h.sure fun x hx => Or.inr (h.wr x hx).2
theorem DOk.new (n : Nat) : DOk (List.replicate n []) [] (zs (64 * n)) := by
  refine ⟨?_, fun s hs => Or.inl (List.eq_of_mem_replicate hs), fun x hx => by cases hx⟩
  show _ = (cont (List.replicate n []) []).flatten
  unfold cont putW
  simp only [List.foldl_nil, List.map_replicate]
  have e : fixS [] = zs 64 := rfl
  rw [e]
  induction n with
  | zero => rfl
  | succ n ih =>
    rw [List.replicate_succ, List.flatten_cons, ← ih, zs_add]; congr 1; omega
/-! ### Appending -/
/-- What is written of a record that goes over sectors, before the i-th. -/
def AppAt (F r : By) (e w i : Nat) : Prop := w ≤ r.length ∧ (w < r.length → e + w = 64 * i + (e - 64 * i) ∧ e / 64 ≤ i)
theorem app_first (F r : By) (e : Nat) : AppAt F r e 0 (e / 64) := ⟨Nat.zero_le _, fun _ => ⟨by omega, Nat.le_refl _⟩⟩
theorem app_step {F r : By} {e w i n : Nat} (hF : F.length = 64 * n) (hr : e + r.length ≤ 64 * n) (h : AppAt F r e w i) (hw : w < r.length) :
    i < n ∧ AppAt F r e (w + min (r.length - w) (64 - (e - 64 * i))) (i + 1) ∧
    ovl (ovl F e (r.take w)) (64 * i) ((sec (ovl F e (r.take w)) i).take (e - 64 * i) ++ (r.drop w).take (min (r.length - w) (64 - (e - 64 * i))) ++ (sec (ovl F e (r.take w)) i).drop (e - 64 * i + min (r.length - w) (64 - (e - 64 * i))))
      = ovl F e (r.take (w + min (r.length - w) (64 - (e - 64 * i)))) := by
  obtain ⟨h1, h2⟩ := h
  obtain ⟨h2, h3⟩ := h2 hw
  have hi : i < n := by omega
  have hf : e - 64 * i < 64 := by omega
  refine ⟨hi, ⟨by omega, fun hlt => ⟨by omega, by omega⟩⟩, ?_⟩
  have hl : (ovl F e (r.take w)).length = 64 * n := by rw [ovl_len (by simp; omega), hF]
  have hb : ((r.drop w).take (min (r.length - w) (64 - (e - 64 * i)))).length = min (r.length - w) (64 - (e - 64 * i)) := by simp
  have k := ovl_sec (b := (r.drop w).take (min (r.length - w) (64 - (e - 64 * i)))) (from_ := e - 64 * i) hl hi (by rw [hb]; omega)
  rw [hb] at k
  rw [k, ← h2]
  have hwl : (r.take w).length = w := by simp; omega
  have k2 := ovl_ovl (F := F) (r := r.take w) (q := (r.drop w).take (min (r.length - w) (64 - (e - 64 * i)))) (p := e) (by rw [hb, hwl]; omega)
  rw [hwl] at k2
  rw [k2, List.take_add]
theorem ovl_end {x r : By} {m : Nat} (h : r.length ≤ m) : ovl (x ++ zs m) x.length r = x ++ r ++ zs (m - r.length) := by
  unfold ovl
  rw [List.take_left, List.drop_append, drop_zs]
  simp
end Go.Proofs.YtnccebppgmnmfaaS
