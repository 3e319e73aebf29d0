/- The walk's own judgements over what a world satisfies: frames as lists of known slots, lists of operations, code, contracts. Plain theorems. -/
import Derived.Test.YtnccebppgmnmfaaSepA
import Derived.Laws.Entries
import Derived.Laws.Build
import Derived.Laws.Cells
import Derived.Laws.Concat
import Derived.Laws.Slices
import Derived.Laws.Strings
import Derived.OwnWalk
set_option linter.unusedVariables false
set_option linter.unusedSimpArgs false
namespace Go.Proofs.YtnccebppgmnmfaaS
open Go.RowKit

/-! ### Frames: what is known of the slots -/
abbrev Sl := List (Nat × Value)
def lk : Sl → Nat → Option Value
  | [], _ => none
  | (k, v) :: r, t => bif Nat.beq k t then some v else lk r t
def ev (L : Sl) : Operand → Option Value
  | .tmp t => lk L t
  | .const v => some v
  | .global g => some (.pointer (some ⟨g, 0, none⟩))
  | .func f => some (.func (.func f) #[] #[])
def evs (L : Sl) : List Operand → Option (List Value)
  | [] => some []
  | x :: xs => match ev L x, evs L xs with
    | some v, some vs => some (v :: vs)
    | _, _ => none
def FrOk (L : Sl) (a : Act) : Prop := ∀ t v, lk L t = some v → a.tmps.getD t undef = v
theorem FrOk.val {L : Sl} {a : Act} (h : FrOk L a) {x : Operand} {v : Value} (e : ev L x = some v) : a.eval x = v := by
  cases x with
  | tmp t => exact h t v e
  | const u => simp only [ev, Option.some.injEq] at e; exact e
  | global g => simp only [ev, Option.some.injEq] at e; exact e
  | func f => simp only [ev, Option.some.injEq] at e; exact e
theorem FrOk.vals {L : Sl} {a : Act} (h : FrOk L a) : ∀ {xs : List Operand} {vs : List Value}, evs L xs = some vs → xs.map a.eval = vs
  | [], vs, e => by simp only [evs, Option.some.injEq] at e; subst e; rfl
  | x :: xs, vs, e => by
    simp only [evs] at e
    split at e
    · rename_i v us hv hus
      simp only [Option.some.injEq] at e
      subst e
      simp only [List.map_cons, h.val hv, h.vals hus]
    · cases e
theorem FrOk.args {L : Sl} {a : Act} (h : FrOk L a) {xs : List Operand} {vs : List Value} (e : evs L xs = some vs) : xs.toArray.map a.eval = vs.toArray := by
  rw [List.map_toArray, h.vals e]
theorem FrOk.put {L : Sl} {a : Act} (h : FrOk L a) {d : Nat} (hd : d < a.tmps.size) (v : Value) : FrOk ((d, v) :: L) (a.put (some d) v) := by
  intro t u e
  simp only [lk] at e
  by_cases ht : d = t
  · subst ht
    have hb : Nat.beq d d = true := Nat.beq_refl d
    rw [hb] at e
    simp only [cond_true, Option.some.injEq] at e
    subst e
    simp [Act.put, hd]
  · have hb : Nat.beq d t = false := by
      cases hq : Nat.beq d t with
      | false => rfl
      | true => exact absurd (Nat.eq_of_beq_eq_true hq) ht
    rw [hb] at e
    have := h t u (by simpa using e)
    rw [← this]
    simp [Act.put, Array.getElem?_setIfInBounds_ne ht]
theorem FrOk.sub {L L' : Sl} {a : Act} (h : FrOk L a) (hs : ∀ t v, lk L' t = some v → lk L t = some v) : FrOk L' a := fun t v e => h t v (hs t v e)
/-- A shorter list of slots, each looked up. -/
def subs (L : Sl) : Sl → Prop
  | [] => True
  | (k, v) :: r => lk L k = some v ∧ subs L r
theorem subs_lk {L : Sl} : ∀ {L' : Sl}, subs L L' → ∀ t v, lk L' t = some v → lk L t = some v
  | [], _, t, v, e => by cases e
  | (k, u) :: r, h, t, v, e => by
    simp only [lk] at e
    by_cases hb : Nat.beq k t = true
    · rw [hb] at e
      simp only [cond_true, Option.some.injEq] at e
      subst e
      rw [← Nat.eq_of_beq_eq_true hb]
      exact h.1
    · rw [Bool.not_eq_true] at hb
      rw [hb] at e
      exact subs_lk h.2 t v (by simpa using e)

structure St (n : Nat) (L : Sl) (G : World) (I R : PH) (M : List Ent) (a : Act) (w : World) : Prop where
  defers : a.defers = []
  size : a.tmps.size = n
  fr : FrOk L a
  sat : Sat G I R M w
section
variable {P : Program} {n : Nat} {ops : Array Oper} {Q : Exit → Act → World → Prop} {G : World} {I R : PH} {M : List Ent} {L : Sl} {a : Act} {w : World}
theorem St.put (s : St n L G I R M a w) {d : Nat} (hd : Nat.blt d n = true) (v : Value) : St n ((d, v) :: L) G I R M (a.put (some d) v) w :=
  ⟨s.defers, by simp [Act.put, s.size], s.fr.put (by rw [s.size]; exact Nat.le_of_ble_eq_true hd) v, s.sat⟩
theorem St.world (s : St n L G I R M a w) {I' : PH} {M' : List Ent} {w' : World} (h : Sat G I' R M' w') : St n L G I' R M' a w' := ⟨s.defers, s.size, s.fr, h⟩
theorem St.sub (s : St n L G I R M a w) {L' : Sl} (h : subs L L') : St n L' G I R M a w := ⟨s.defers, s.size, s.fr.sub (subs_lk h), s.sat⟩

/-! ### Operations that yield a value and leave the world alone -/
def Y (P : Program) (op : Op) (T : TypeId) (L : Sl) (S : World → Prop) (v : Value) : Prop :=
  ∀ d pos af gd, ∀ a w, FrOk L a → S w → (execOp a.eval ⟨d, op, T, pos, af, gd⟩).run P w = .ok (.value v) w

/-! ### Lists of operations (a region in the order of the text) -/
def GL (P : Program) (n : Nat) (ops : Array Oper) (Q : Exit → Act → World → Prop) (l : List Oper) (L : Sl) (G : World) (I R : PH) (M : List Ent) : Prop :=
  ∀ a w, St n L G I R M a w → wpList P ops Q l a w
def GQ (Q : Exit → Act → World → Prop) (e : Exit) (n : Nat) (L : Sl) (G : World) (I R : PH) (M : List Ent) : Prop := ∀ a w, St n L G I R M a w → Q e a w
def GC (P : Program) (n : Nat) (Q : Exit → Act → World → Prop) (c : Code) (L : Sl) (G : World) (I R : PH) (M : List Ent) : Prop :=
  ∀ a w, St n L G I R M a w → c.wp P Q a w

theorem wpList_run {o : Oper} {rest : List Oper} (hg : o.guard = none) (h : o.wp P a w (wpList P ops Q rest) Q) : wpList P ops Q (o :: rest) a w := by
  unfold wpList
  rw [if_pos (by simp [Region.wanted, hg])]
  exact .inl h
theorem gl_nil (h : GQ Q .normal n L G I R M) : GL P n ops Q [] L G I R M := fun a w s => h a w s
theorem gl_y {rest : List Oper} {d : Nat} {op : Op} {T : TypeId} {pos : String} {af : Array Edge} {v : Value} (hd : Nat.blt d n = true)
    (hy : Y P op T L (Sat G I R M) v) (h : GL P n ops Q rest ((d, v) :: L) G I R M) : GL P n ops Q (⟨some d, op, T, pos, af, none⟩ :: rest) L G I R M := by
  intro a w s
  refine wpList_run rfl ?_
  unfold Oper.wp
  rw [hy _ _ _ _ a w s.fr s.sat]
  exact h _ _ (s.put hd v)
/-- A guarded operation whose guard is met. -/
theorem gl_want {rest : List Oper} {d : Option Nat} {op : Op} {T : TypeId} {pos : String} {af : Array Edge} {j dj : Nat} {want b : Bool} {oj : Oper}
    (hj : ops[j]? = some oj) (hdj : oj.dst = some dj) (hl : lk L dj = some (.bool b)) (hb : b = want)
    (h : GL P n ops Q (⟨d, op, T, pos, af, none⟩ :: rest) L G I R M) : GL P n ops Q (⟨d, op, T, pos, af, some (j, want)⟩ :: rest) L G I R M := by
  intro a w s
  have h1 := h a w s
  have hy : yielded ops a.tmps j = some b := by
    have h2 := s.fr dj _ hl
    unfold yielded
    rw [hj]
    simp only [Option.bind_some, hdj]
    cases e : a.tmps[dj]? with
    | none => rw [Array.getD_eq_getD_getElem?, e] at h2; cases h2
    | some x => rw [Array.getD_eq_getD_getElem?, e] at h2; simp only [Option.getD_some] at h2; subst h2; rfl
  unfold wpList at h1 ⊢
  rw [if_pos (by simp [Region.wanted])] at h1
  rw [if_pos (by simp only [Region.wanted, hy, hb]; simp)]
  exact h1
theorem gl_skip {rest : List Oper} {d : Nat} {op : Op} {T : TypeId} {pos : String} {af : Array Edge} {j dj : Nat} {want b : Bool} {oj : Oper}
    (hj : ops[j]? = some oj) (hdj : oj.dst = some dj) (hl : lk L dj = some (.bool b)) (hb : b = !want) (hd : Nat.blt d n = true)
    (h : GL P n ops Q rest ((d, undef) :: L) G I R M) : GL P n ops Q (⟨some d, op, T, pos, af, some (j, want)⟩ :: rest) L G I R M := by
  intro a w s
  have hy : yielded ops a.tmps j = some b := by
    have h2 := s.fr dj _ hl
    unfold yielded
    rw [hj]
    simp only [Option.bind_some, hdj]
    cases e : a.tmps[dj]? with
    | none => rw [Array.getD_eq_getD_getElem?, e] at h2; cases h2
    | some x => rw [Array.getD_eq_getD_getElem?, e] at h2; simp only [Option.getD_some] at h2; subst h2; rfl
  unfold wpList
  rw [if_neg (by simp only [Region.wanted, hy, hb]; cases want <;> simp)]
  exact h _ _ (s.put hd undef)
/-- A slot's Bool is taken apart. -/
theorem gl_if {l : List Oper} {t : Nat} {b : Bool} (hl : lk L t = some (.bool b)) (h1 : b = true → GL P n ops Q l L G I R M) (h0 : b = false → GL P n ops Q l L G I R M) :
    GL P n ops Q l L G I R M := by cases b; exact h0 rfl; exact h1 rfl

/-! ### Operations that act -/
def Ef (P : Program) (n : Nat) (Q : Exit → Act → World → Prop) (d : Option Tmp) (op : Op) (T : TypeId) (L : Sl) (G : World) (I R : PH) (M : List Ent)
    (K : Sl → PH → List Ent → Prop) : Prop :=
  ∀ pos af gd, ∀ a w (next : Act → World → Prop), St n L G I R M a w → (∀ L' I' M', K L' I' M' → ∀ a' w', St n L' G I' R M' a' w' → next a' w') →
    Oper.wp P ⟨d, op, T, pos, af, gd⟩ a w next Q
theorem gl_ef {rest : List Oper} {d : Option Tmp} {op : Op} {T : TypeId} {pos : String} {af : Array Edge} {K : Sl → PH → List Ent → Prop}
    (he : Ef P n Q d op T L G I R M K) (h : ∀ L' I' M', K L' I' M' → GL P n ops Q rest L' G I' R M') :
    GL P n ops Q (⟨d, op, T, pos, af, none⟩ :: rest) L G I R M := by
  intro a w s
  exact wpList_run rfl (he _ _ _ a w _ s fun L' I' M' k a' w' s' => h L' I' M' k a' w' s')

/-! ### Code -/
theorem gc_region {id : Nat} {l : List Oper} (h : GL P n l.toArray Q l L G I R M) : GC P n Q (.region id l.toArray false) L G I R M :=
  fun a w s => wp_region_lit (h a w s)
theorem gc_seq {x y : Code} (h : GC P n (Exit.then (y.wp P Q) Q) x L G I R M) : GC P n Q (.seq x y) L G I R M := fun a w s => wp_seq (h a w s)
theorem gc_skip (h : GQ Q .normal n L G I R M) : GC P n Q .skip L G I R M := fun a w s => wp_skip (h a w s)
theorem gc_ret (h : GQ Q .ret n L G I R M) : GC P n Q .ret L G I R M := fun a w s => wp_ret (h a w s)
theorem gc_exit {id : Nat} (h : GQ Q (.exit id) n L G I R M) : GC P n Q (.exit id) L G I R M := fun a w s => wp_exit (h a w s)
theorem gc_block {id : Nat} {c : Code} (h : GC P n (Exit.inBlock id Q) c L G I R M) : GC P n Q (.block id c) L G I R M := fun a w s => wp_block (h a w s)
theorem gc_if {c : Operand} {x y : Code} {b : Bool} (hc : ev L c = some (.bool b)) (h1 : b = true → GC P n Q x L G I R M) (h0 : b = false → GC P n Q y L G I R M) :
    GC P n Q (.cond c x y) L G I R M := fun a w s => wp_cond_split (s.fr.val hc) (fun e => h1 e a w s) (fun e => h0 e a w s)
theorem gq_then {K : Act → World → Prop} {y : Code} (hK : K = y.wp P Q) (h : GC P n Q y L G I R M) : GQ (Exit.then K Q) .normal n L G I R M := by subst hK; exact fun a w s => h a w s
theorem gq_then' {y : Code} (h : GC P n Q y L G I R M) : GQ (Exit.then (y.wp P Q) Q) .normal n L G I R M := fun a w s => h a w s
theorem gq_pass {K : Act → World → Prop} {e : Exit} (he : e ≠ .normal) (h : GQ Q e n L G I R M) : GQ (Exit.then K Q) e n L G I R M := fun a w s => by
  have := h a w s
  cases e <;> first | exact absurd rfl he | exact this
theorem gq_pass_exit {K : Act → World → Prop} {id : Nat} (h : GQ Q (.exit id) n L G I R M) : GQ (Exit.then K Q) (.exit id) n L G I R M := h
theorem gq_pass_ret {K : Act → World → Prop} (h : GQ Q .ret n L G I R M) : GQ (Exit.then K Q) .ret n L G I R M := h
theorem gq_in_ret {id : Nat} (h : GQ Q .ret n L G I R M) : GQ (Exit.inBlock id Q) .ret n L G I R M := h
theorem gq_in_normal {id : Nat} (h : GQ Q .normal n L G I R M) : GQ (Exit.inBlock id Q) .normal n L G I R M := h
theorem gq_in_exit {id : Nat} (h : GQ Q .normal n L G I R M) : GQ (Exit.inBlock id Q) (.exit id) n L G I R M := fun a w s => by
  show (if id = id then Q .normal a w else _); rw [if_pos rfl]; exact h a w s
theorem gq_in_other {id id' : Nat} (hne : Nat.beq id' id = false) (h : GQ Q (.exit id') n L G I R M) : GQ (Exit.inBlock id Q) (.exit id') n L G I R M := fun a w s => by
  show (if id' = id then _ else Q (.exit id') a w); rw [if_neg (fun e => by subst e; rw [Nat.beq_refl] at hne; cases hne)]; exact h a w s
/-- A loop: what holds at its head is a family over α; a measure goes down. -/
theorem gc_loop {α : Type} {c : Code} (Lf : α → Sl) (If : α → PH) (Mf : α → List Ent) (inv : α → Prop) (μ : α → Nat) (x0 : α)
    (h0 : inv x0) (hI : I = If x0) (hM : M = Mf x0) (hL : ∀ t v, lk (Lf x0) t = some v → lk L t = some v)
    (round : ∀ x, inv x → GC P n (Exit.then (fun a w => ∃ y, inv y ∧ μ y < μ x ∧ St n (Lf y) G (If y) R (Mf y) a w) Q) c (Lf x) G (If x) R (Mf x)) :
    GC P n Q (.loop c) L G I R M := by
  intro a w s
  subst hI hM
  intro b k cs
  have key : ∀ m x a w, μ x = m → inv x → St n (Lf x) G (If x) R (Mf x) a w →
      ∃ e a' w', Q e a' w' ∧ Arrives P (lone (b.at a (.code c :: .inLoop c :: k)) cs w) b k cs e a' w' := by
    intro m
    induction m using Nat.strongRecOn with
    | _ m ih =>
      intro x a w hm hi s
      obtain ⟨e, a₁, w₁, hq, harr⟩ := round x hi a w s b (.inLoop c :: k) cs
      cases e with
      | normal =>
        obtain ⟨y, hy, hlt, sy⟩ := hq
        obtain ⟨e₂, a₂, w₂, hq₂, harr₂⟩ := ih (μ y) (hm ▸ hlt) y a₁ w₁ rfl hy sy
        exact ⟨e₂, a₂, w₂, hq₂, .of_steps (Steps.trans harr (.one step_inLoop)) harr₂⟩
      | exit id => exact ⟨_, a₁, w₁, hq, .pass (x := .inLoop c) rfl (fun _ _ => .inl (by simp)) harr⟩
      | goto l => exact ⟨_, a₁, w₁, hq, .pass (x := .inLoop c) rfl (fun _ _ => .inl (by simp)) harr⟩
      | ret => exact ⟨_, a₁, w₁, hq, .pass (x := .inLoop c) rfl (fun _ _ => .inl (by simp)) harr⟩
      | panic ch => exact ⟨_, a₁, w₁, hq, .pass (x := .inLoop c) rfl (fun _ _ => .inl (by simp)) harr⟩
      | outgrown => exact ⟨_, a₁, w₁, hq, .pass (x := .inLoop c) rfl (fun _ _ => .inl (by simp)) harr⟩
  obtain ⟨e, a', w', hq, harr⟩ := key _ x0 a w rfl h0 ⟨s.defers, s.size, s.fr.sub hL, s.sat⟩
  exact ⟨e, a', w', hq, .of_steps (.one step_loop) harr⟩
end
end Go.Proofs.YtnccebppgmnmfaaS
