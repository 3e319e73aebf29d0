/- A small separation logic over the model's worlds: partial heaps, entries, what a world satisfies. Plain theorems: no program in sight. -/
import Derived.Below
import Derived.Calls
import Derived.Tactics
import Derived.Orders
import Derived.OrdersHeld
import Derived.KernelRfl
set_option linter.unusedVariables false
set_option linter.unusedSimpArgs false
namespace Go.Proofs.YtnccebppgmnmfaaS
open Go.RowKit

/-! ### Partial heaps -/
abbrev PH := Nat → Option Obj
def PH.emp : PH := fun _ => none
def PH.single (b : Nat) (o : Obj) : PH := fun i => if i = b then some o else none
def PH.union (h k : PH) : PH := fun i => match h i with | some o => some o | none => k i
def PH.disj (h k : PH) : Prop := ∀ i, h i = none ∨ k i = none
def PH.le (h k : PH) : Prop := ∀ i o, h i = some o → k i = some o
def PH.inW (h : PH) (w : World) : Prop := ∀ i o, h i = some o → w.heap[i]? = some o
theorem PH.le_refl (h : PH) : h.le h := fun _ _ e => e
theorem PH.le_trans {h k l : PH} (a : h.le k) (b : k.le l) : h.le l := fun i o e => b i o (a i o e)
theorem PH.disj_comm {h k : PH} (d : h.disj k) : k.disj h := fun i => (d i).symm
theorem PH.union_emp (h : PH) : h.union .emp = h := by
  funext i; unfold PH.union PH.emp; cases h i <;> rfl
theorem PH.emp_union (h : PH) : PH.union .emp h = h := by
  funext i; rfl
theorem PH.union_assoc (h k l : PH) : (h.union k).union l = h.union (k.union l) := by
  funext i; unfold PH.union; cases h i <;> rfl
theorem PH.union_comm {h k : PH} (d : h.disj k) : h.union k = k.union h := by
  funext i
  unfold PH.union
  rcases d i with e | e <;> rw [e]
  · cases k i <;> rfl
  · cases h i <;> rfl
theorem PH.disj_union_left {h k l : PH} : (h.union k).disj l ↔ h.disj l ∧ k.disj l := by
  constructor
  · intro d
    refine ⟨fun i => ?_, fun i => ?_⟩
    · have := d i; unfold PH.union at this
      cases e : h i with
      | none => exact .inl rfl
      | some o => rw [e] at this; exact this.imp (fun x => by cases x) id
    · have := d i; unfold PH.union at this
      cases e : k i with
      | none => exact .inl rfl
      | some o => rw [e] at this; cases f : h i <;> rw [f] at this <;> exact this.imp (fun x => by cases x) id
  · rintro ⟨d1, d2⟩ i
    unfold PH.union
    rcases d1 i with e | e
    · rw [e]; exact d2 i
    · exact .inr e
theorem PH.disj_union_right {h k l : PH} : h.disj (k.union l) ↔ h.disj k ∧ h.disj l := by
  constructor
  · intro d; have := PH.disj_union_left.1 (PH.disj_comm d); exact ⟨PH.disj_comm this.1, PH.disj_comm this.2⟩
  · rintro ⟨a, b⟩; exact PH.disj_comm (PH.disj_union_left.2 ⟨PH.disj_comm a, PH.disj_comm b⟩)
theorem PH.inW_union {h k : PH} {w : World} : h.inW w → k.inW w → (h.union k).inW w := by
  intro a b i o e
  unfold PH.union at e
  cases f : h i with
  | none => rw [f] at e; exact b i o e
  | some p => rw [f] at e; exact a i o (by rw [f]; exact e)
theorem PH.le_union_left (h k : PH) : h.le (h.union k) := fun i o e => by unfold PH.union; rw [e]
theorem PH.le_union_right {h k : PH} (d : h.disj k) : k.le (h.union k) := fun i o e => by
  unfold PH.union
  rcases d i with f | f
  · rw [f]; exact e
  · rw [f] at e; cases e
theorem PH.inW_le {h k : PH} {w : World} (l : h.le k) (a : k.inW w) : h.inW w := fun i o e => a i o (l i o e)
theorem PH.disj_le {h k l : PH} (le : h.le k) (d : k.disj l) : h.disj l := fun i => by
  cases e : h i with
  | none => exact .inl rfl
  | some o => exact (d i).imp (fun x => by rw [le i o e] at x; cases x) id
theorem PH.emp_disj (h : PH) : PH.emp.disj h := fun _ => .inl rfl
theorem PH.disj_emp (h : PH) : h.disj .emp := fun _ => .inr rfl
theorem PH.emp_inW (w : World) : PH.emp.inW w := fun _ _ e => by cases e
theorem PH.single_at (b : Nat) (o : Obj) : PH.single b o b = some o := by simp [PH.single]
theorem PH.single_disj {b : Nat} {o : Obj} {h : PH} (e : h b = none) : (PH.single b o).disj h := fun i => by
  unfold PH.single
  by_cases hi : i = b
  · subst hi; exact .inr e
  · exact .inl (if_neg hi)
theorem PH.disj_single {b : Nat} {o : Obj} {h : PH} (d : (PH.single b o).disj h) : h b = none := (d b).resolve_left (by simp [PH.single])
theorem PH.single_inW {b : Nat} {o : Obj} {w : World} (e : w.heap[b]? = some o) : (PH.single b o).inW w := fun i p f => by
  unfold PH.single at f
  by_cases hi : i = b
  · subst hi; rw [if_pos rfl] at f; rw [← f]; exact e
  · rw [if_neg hi] at f; cases f

/-! ### Entries: what a part of the heap is -/
abbrev Ent := PH → Prop
def blk (b : Nat) (o : Obj) : Ent := fun h => h = PH.single b o
def stars : List Ent → PH → Prop
  | [], h => h = PH.emp
  | e :: es, h => ∃ h1 h2, e h1 ∧ stars es h2 ∧ h1.disj h2 ∧ h = h1.union h2
theorem stars_append {M N : List Ent} {h : PH} : stars (M ++ N) h ↔ ∃ h1 h2, stars M h1 ∧ stars N h2 ∧ h1.disj h2 ∧ h = h1.union h2 := by
  induction M generalizing h with
  | nil =>
    constructor
    · intro a; exact ⟨.emp, h, rfl, a, PH.emp_disj _, (PH.emp_union h).symm⟩
    · rintro ⟨h1, h2, rfl, a, _, rfl⟩; rw [PH.emp_union]; exact a
  | cons e M ih =>
    constructor
    · rintro ⟨h1, h2, he, hs, hd, rfl⟩
      obtain ⟨k1, k2, a, b, c, rfl⟩ := ih.1 hs
      rw [PH.disj_union_right] at hd
      exact ⟨h1.union k1, k2, ⟨h1, k1, he, a, hd.1, rfl⟩, b, PH.disj_union_left.2 ⟨hd.2, c⟩, by rw [PH.union_assoc]⟩
    · rintro ⟨_, k2, ⟨h1, k1, he, a, hd, rfl⟩, b, c, rfl⟩
      rw [PH.disj_union_left] at c
      exact ⟨h1, k1.union k2, he, ih.2 ⟨k1, k2, a, b, c.2, rfl⟩, PH.disj_union_right.2 ⟨hd, c.1⟩, by rw [PH.union_assoc]⟩
theorem stars_comm {M N : List Ent} {h : PH} (a : stars (M ++ N) h) : stars (N ++ M) h := by
  obtain ⟨h1, h2, x, y, d, rfl⟩ := stars_append.1 a
  exact stars_append.2 ⟨h2, h1, y, x, PH.disj_comm d, PH.union_comm d⟩
theorem stars_perm {M N : List Ent} (p : M.Perm N) : ∀ {h : PH}, stars M h → stars N h := by
  induction p with
  | nil => exact id
  | cons e _ ih => rintro h ⟨h1, h2, a, b, c, d⟩; exact ⟨h1, h2, a, ih b, c, d⟩
  | swap x y l =>
    rintro h ⟨h1, _, a, ⟨k1, k2, b, c, d, rfl⟩, e, rfl⟩
    rw [PH.disj_union_right] at e
    refine ⟨k1, h1.union k2, b, ⟨h1, k2, a, c, e.2, rfl⟩, PH.disj_union_right.2 ⟨PH.disj_comm e.1, d⟩, ?_⟩
    rw [← PH.union_assoc, ← PH.union_assoc, PH.union_comm e.1]
  | trans _ _ ih1 ih2 => exact fun a => ih2 (ih1 a)

/-! ### What a world satisfies: I is known for good, R is the frame, M is owned -/
structure Sat (G : World) (I R : PH) (M : List Ent) (w : World) : Prop where
  os : w.os = G.os
  tape : w.tape = G.tape
  output : w.output = G.output
  mem : ∃ h, stars M h ∧ h.disj I ∧ h.disj R ∧ I.disj R ∧ h.inW w ∧ I.inW w ∧ R.inW w
theorem Sat.perm {G : World} {I R : PH} {M N : List Ent} {w : World} (s : Sat G I R M w) (p : M.Perm N) : Sat G I R N w :=
  ⟨s.os, s.tape, s.output, let ⟨h, a, b⟩ := s.mem; ⟨h, stars_perm p a, b⟩⟩
/-- The world has only drawn. -/
theorem Sat.drawn {G : World} {I R : PH} {M : List Ent} {w : World} (s : Sat G I R M w) (n : Nat) : Sat G I R M { w with drawn := n } :=
  ⟨s.os, s.tape, s.output, s.mem⟩
theorem Sat.known {G : World} {I R : PH} {M : List Ent} {w : World} (s : Sat G I R M w) {b : Nat} {o : Obj} (h : I b = some o) : w.heap[b]? = some o :=
  let ⟨_, _, _, _, _, _, c, _⟩ := s.mem; c b o h
/-- Entries that a call doesn't see are a part of its frame. -/
theorem Sat.split {G : World} {I R : PH} {M N : List Ent} {w : World} (s : Sat G I R (M ++ N) w) :
    ∃ R', Sat G I R' M w ∧ ∀ I' M' w', I.le I' → Sat G I' R' M' w' → Sat G I' R (M' ++ N) w' := by
  obtain ⟨h, hs, d1, d2, d3, a, b, c⟩ := s.mem
  obtain ⟨h1, h2, x, y, d, rfl⟩ := stars_append.1 hs
  rw [PH.disj_union_left] at d1 d2
  refine ⟨h2.union R, ⟨s.os, s.tape, s.output, h1, x, d1.1, PH.disj_union_right.2 ⟨d, d2.1⟩, PH.disj_union_right.2 ⟨PH.disj_comm d1.2, d3⟩,
    PH.inW_le (PH.le_union_left _ _) a, b, PH.inW_union (PH.inW_le (PH.le_union_right d) a) c⟩, ?_⟩
  intro I' M' w' _ s'
  obtain ⟨k, ks, e1, e2, e3, f, g, i⟩ := s'.mem
  rw [PH.disj_union_right] at e2 e3
  exact ⟨s'.os, s'.tape, s'.output, k.union h2, stars_append.2 ⟨k, h2, ks, y, e2.1, rfl⟩, PH.disj_union_left.2 ⟨e1, PH.disj_comm e3.1⟩,
    PH.disj_union_left.2 ⟨e2.2, d2.2⟩, e3.2, PH.inW_union f (PH.inW_le (PH.le_union_left _ _) i), g, PH.inW_le (PH.le_union_right d2.2) i⟩
theorem get_perm {α : Type} : ∀ {M : List α} {i : Nat} {e : α}, M[i]? = some e → M.Perm (e :: M.eraseIdx i)
  | x :: M, 0, e, h => by simp at h; subst h; exact List.Perm.refl _
  | x :: M, i + 1, e, h => by
    have := get_perm (M := M) (i := i) (e := e) (by simpa using h)
    simp only [List.eraseIdx_cons_succ]
    exact (this.cons x).trans (List.Perm.swap e x _)
theorem set_perm {α : Type} : ∀ {M : List α} {i : Nat} {e f : α}, M[i]? = some e → (f :: M.eraseIdx i).Perm (M.set i f)
  | x :: M, 0, e, f, h => by simp
  | x :: M, i + 1, e, f, h => by
    have := set_perm (M := M) (i := i) (e := e) (f := f) (by simpa using h)
    simp only [List.eraseIdx_cons_succ, List.set_cons_succ]
    exact (List.Perm.swap x f _).trans (this.cons x)
/-- An entry that is a block: it lies in the world. -/
theorem Sat.block {G : World} {I R : PH} {M : List Ent} {w : World} (s : Sat G I R M w) {i b : Nat} {o : Obj} (h : M[i]? = some (blk b o)) : w.heap[b]? = some o := by
  have := (s.perm (get_perm h)).mem
  obtain ⟨k, ⟨h1, h2, e, _, _, rfl⟩, _, _, _, a, _⟩ := this
  cases e
  exact a b o (PH.le_union_left _ _ b o (PH.single_at b o))
/-- One block of its own is written: the rest stands. -/
theorem Sat.write {G : World} {I R : PH} {M : List Ent} {w w' : World} (s : Sat G I R M w) {i b : Nat} {o o' : Obj} (h : M[i]? = some (blk b o))
    (ho : w'.os = w.os) (ht : w'.tape = w.tape) (hu : w'.output = w.output) (hb : w'.heap[b]? = some o') (hr : ∀ j : Nat, j ≠ b → w.heap[j]? ≠ none → w'.heap[j]? = w.heap[j]?) :
    Sat G I R (M.set i (blk b o')) w' := by
  have s1 := s.perm (get_perm h)
  refine Sat.perm (M := blk b o' :: M.eraseIdx i) ?_ (set_perm h)
  obtain ⟨k, ⟨h1, h2, e, r, d, rfl⟩, d1, d2, d3, a, c, f⟩ := s1.mem
  cases e
  rw [PH.disj_union_left] at d1 d2
  have keep : ∀ {l : PH}, l b = none → l.inW w → l.inW w' := fun hl hw j p hj => by
    have hne : j ≠ b := fun e => by rw [e, hl] at hj; cases hj
    rw [hr j hne (by rw [hw j p hj]; simp)]; exact hw j p hj
  have hn2 := PH.disj_single d
  have hnI := PH.disj_single d1.1
  have hnR := PH.disj_single d2.1
  exact ⟨ho.trans s.os, ht.trans s.tape, hu.trans s.output, (PH.single b o').union h2, ⟨_, h2, rfl, r, PH.single_disj hn2, rfl⟩,
    PH.disj_union_left.2 ⟨PH.single_disj hnI, d1.2⟩, PH.disj_union_left.2 ⟨PH.single_disj hnR, d2.2⟩, d3,
    PH.inW_union (PH.single_inW hb) (keep hn2 (PH.inW_le (PH.le_union_right d) a)), keep hnI c, keep hnR f⟩
/-- Old blocks stand, others come: nothing is lost. -/
theorem Sat.grow {G : World} {I R : PH} {M : List Ent} {w w' : World} (s : Sat G I R M w)
    (ho : w'.os = w.os) (ht : w'.tape = w.tape) (hu : w'.output = w.output) (hr : ∀ j : Nat, w.heap[j]? ≠ none → w'.heap[j]? = w.heap[j]?) : Sat G I R M w' := by
  obtain ⟨k, ks, d1, d2, d3, a, c, f⟩ := s.mem
  have keep : ∀ {l : PH}, l.inW w → l.inW w' := fun hw j p hj => by
    rw [hr j (by rw [hw j p hj]; simp)]; exact hw j p hj
  exact ⟨ho.trans s.os, ht.trans s.tape, hu.trans s.output, k, ks, d1, d2, d3, keep a, keep c, keep f⟩
theorem Sat.below {G : World} {I R : PH} {M : List Ent} {w w' : World} (s : Sat G I R M w) (hb : Below w.heap.size w w') : Sat G I R M w' :=
  s.grow hb.os hb.tape hb.output fun j hj => hb.block j (by
    rcases Nat.lt_or_ge j w.heap.size with h | h
    · exact h
    · exact absurd (Array.getElem?_eq_none h) hj)
/-- A new block is owned. -/
theorem Sat.alloc {G : World} {I R : PH} {M : List Ent} {w : World} (s : Sat G I R M w) (o : Obj) : Sat G I R (M ++ [blk w.heap.size o]) (w.alloc o) := by
  have hsz : w.heap[w.heap.size]? = none := Array.getElem?_eq_none (Nat.le_refl _)
  have lt : ∀ j p, w.heap[j]? = some p → j < w.heap.size := fun j p h => (Array.getElem?_eq_some_iff.1 h).1
  obtain ⟨k, ks, d1, d2, d3, a, c, f⟩ := s.mem
  have none_of : ∀ {l : PH}, l.inW w → l w.heap.size = none := fun {l} hw => by
    cases e : l w.heap.size with
    | none => rfl
    | some p => have := hw _ _ e; rw [hsz] at this; cases this
  have keep : ∀ {l : PH}, l.inW w → l.inW (w.alloc o) := fun hw j p hj => by
    rw [Below.heap_alloc w o j (lt j p (hw j p hj))]; exact hw j p hj
  have hnew : (w.alloc o).heap[w.heap.size]? = some o := by simp [World.alloc, -World.alloc_eq]
  have dk : k.disj (PH.single w.heap.size o) := PH.disj_comm (PH.single_disj (none_of a))
  exact ⟨s.os, s.tape, s.output, k.union (PH.single w.heap.size o), stars_append.2 ⟨k, _, ks, ⟨_, .emp, rfl, rfl, PH.disj_emp _, (PH.union_emp _).symm⟩, dk, rfl⟩,
    PH.disj_union_left.2 ⟨d1, PH.single_disj (none_of c)⟩, PH.disj_union_left.2 ⟨d2, PH.single_disj (none_of f)⟩, d3,
    PH.inW_union (keep a) (PH.single_inW hnew), keep c, keep f⟩
/-- An entry is known for good from now on: nobody writes it any more. -/
theorem Sat.freeze {G : World} {I R : PH} {M : List Ent} {w : World} (s : Sat G I R M w) {i : Nat} {e : Ent} (h : M[i]? = some e) :
    ∃ k I', e k ∧ I.le I' ∧ k.le I' ∧ Sat G I' R (M.eraseIdx i) w := by
  obtain ⟨_, ⟨h1, h2, x, y, d, rfl⟩, d1, d2, d3, a, c, f⟩ := (s.perm (get_perm h)).mem
  rw [PH.disj_union_left] at d1 d2
  refine ⟨h1, h1.union I, x, PH.le_union_right d1.1, PH.le_union_left _ _, s.os, s.tape, s.output, h2, y,
    PH.disj_union_right.2 ⟨PH.disj_comm d, d1.2⟩, d2.2, PH.disj_union_left.2 ⟨d2.1, d3⟩, PH.inW_le (PH.le_union_right d) a,
    PH.inW_union (PH.inW_le (PH.le_union_left _ _) a) c, f⟩
/-- What is owned may be forgotten. -/
theorem Sat.drop {G : World} {I R : PH} {M : List Ent} {w : World} (s : Sat G I R M w) (i : Nat) : Sat G I R (M.eraseIdx i) w := by
  cases h : M[i]? with
  | none => rw [List.eraseIdx_of_length_le (by simpa using h)]; exact s
  | some e =>
    obtain ⟨_, ⟨h1, h2, x, y, d, rfl⟩, d1, d2, d3, a, c, f⟩ := (s.perm (get_perm h)).mem
    rw [PH.disj_union_left] at d1 d2
    exact ⟨s.os, s.tape, s.output, h2, y, d1.2, d2.2, d3, PH.inW_le (PH.le_union_right d) a, c, f⟩
/-- An entry may be read as others. -/
theorem Sat.turn {G : World} {I R : PH} {M : List Ent} {w : World} (s : Sat G I R M w) {i : Nat} {e : Ent} {N : List Ent} (h : M[i]? = some e)
    (he : ∀ k, e k → stars N k) : Sat G I R (M.eraseIdx i ++ N) w := by
  obtain ⟨_, ⟨h1, h2, x, y, d, rfl⟩, d1, d2, d3, a, c, f⟩ := (s.perm (get_perm h)).mem
  refine ⟨s.os, s.tape, s.output, h2.union h1, stars_append.2 ⟨h2, h1, y, he _ x, PH.disj_comm d, rfl⟩, ?_⟩
  rw [← PH.union_comm d]
  exact ⟨d1, d2, d3, a, c, f⟩
end Go.Proofs.YtnccebppgmnmfaaS
