/- Contracts that keep what is known, loops that keep what they don't write, and other short cuts of the printed walks. Plain theorems. -/
import Derived.Test.YtnccebppgmnmfaaSepG
set_option linter.unusedVariables false
set_option linter.unusedSimpArgs false
namespace Go.Proofs.YtnccebppgmnmfaaS
open Go.RowKit
theorem Sat.leI {G : World} {I I' R : PH} {M : List Ent} {w : World} (s : Sat G I' R M w) (h : I.le I') : Sat G I R M w := by
  obtain ⟨k, a, d1, d2, d3, e, f, g⟩ := s.mem
  exact ⟨s.os, s.tape, s.output, k, a, PH.disj_comm (PH.disj_le h (PH.disj_comm d1)), d2, PH.disj_le h d3, e, PH.inW_le h f, g⟩
/-- A contract of a function that only computes. -/
def CtrP (P : Program) (f : Nat) (args : List Value) (φ : Value → Prop) : Prop :=
  ∀ G I R M w, Sat G I R M w → Calls P f args.toArray w fun e w' => ∃ v, e = .returned v ∧ Sat G I R M w' ∧ φ v
theorem CtrP.of {P : Program} {f : Nat} {args : List Value} {φ : Value → Prop} (h : ∀ I, Ctr P f args I [] (fun v _ _ => φ v)) : CtrP P f args φ := fun G I R M w s => by
  obtain ⟨R', s1, back⟩ := Sat.split (M := []) (N := M) s
  refine (h I G R' w s1).mono fun e w' ⟨v, I', M', he, hl, hs, hp⟩ => ⟨v, he, ?_, hp⟩
  exact ((back I' M' w' hl hs).leI hl).part (M2 := M) (J := M') List.perm_append_comm
theorem CtrP.mono {P : Program} {f : Nat} {args : List Value} {φ ψ : Value → Prop} (h : CtrP P f args φ) (hi : ∀ v, φ v → ψ v) : CtrP P f args ψ := fun G I R M w s =>
  (h G I R M w s).mono fun e w' ⟨v, he, hs, hp⟩ => ⟨v, he, hs, hi v hp⟩
section
variable {P : Program} {n : Nat} {ops : Array Oper} {Q : Exit → Act → World → Prop} {G : World} {I R I0 : PH} {M M2 J : List Ent} {L : Sl} {Φ : Value → PH → List Ent → Prop} {fn : Func} {v v1 v2 v3 : Value}
variable {S : World → Prop} {T : TypeId} {x y z : Operand}
theorem ef_callp {f : Nat} {xs : List Operand} {ts : Array TypeId} {vs : List Value} {d : Option Nat} {T : TypeId} {φ : Value → Prop}
    (hf : Enters P f) (ha : evs L xs = some vs) (hc : CtrP P f vs φ) (hd : dstOk n d = true) :
    Ef P n Q d (.call { callee := .value (.func f), args := xs.toArray, argTypes := ts }) T L G I R M (fun L' I' M' => ∃ v, φ v ∧ L' = putL L d v ∧ I' = I ∧ M' = M) := by
  intro pos af gd a w next s hk
  have hrun : (execOp a.eval ⟨d, .call { callee := .value (.func f), args := xs.toArray, argTypes := ts }, T, pos, af, gd⟩).run P w = .ok (.enter f vs.toArray) w := by
    have := hf vs.toArray w
    simp [execOp, resolve, Act.eval, Deferred.ofValue, invoke, s.fr.args ha, this]
  unfold Oper.wp
  rw [hrun]
  refine (hc G I R M w s.sat).mono fun e w' ⟨v, he, hs, hΦ⟩ => ?_
  subst he
  exact hk _ I M ⟨v, hΦ, rfl, rfl, rfl⟩ _ w' ((s.world hs).putO hd v)
/-- A call whose contract keeps what is known. -/
theorem ef_callm {f : Nat} {xs : List Operand} {ts : Array TypeId} {vs : List Value} {d : Option Nat} {T : TypeId} {Mc Mr : List Ent} {Ψ : Value → List Ent → Prop}
    (hf : Enters P f) (ha : evs L xs = some vs) (hc : Ctr P f vs I Mc (fun v _ M' => Ψ v M')) (hp : M.Perm (Mc ++ Mr)) (hd : dstOk n d = true) :
    Ef P n Q d (.call { callee := .value (.func f), args := xs.toArray, argTypes := ts }) T L G I R M
      (fun L' I' M' => ∃ v Mc', Ψ v Mc' ∧ L' = putL L d v ∧ I' = I ∧ M' = Mc' ++ Mr) := by
  intro pos af gd a w next s hk
  refine ef_call hf ha hc hp hd pos af gd a w next s fun L' I' M' ⟨v, Mc', hle, hΦ, hL, hM⟩ a' w' s' => ?_
  subst hL hM
  exact hk _ I _ ⟨v, Mc', hΦ, rfl, rfl, rfl⟩ a' w' ⟨s'.defers, s'.size, s'.fr, s'.sat.leI hle⟩

/-! ### Returns: what isn't told is left -/
theorem gq_r0 (hr : fn.results = #[]) (hp : M.Perm (M2 ++ J)) (h : Φ (.tuple #[]) I M2) : GQ (bodyPost P fn (Post G R I Φ)) .ret n L G I R M := gq_part hp (gq_ret0 hr (PH.le_refl _) h)
theorem gq_e0 (hr : fn.results = #[]) (hp : M.Perm (M2 ++ J)) (h : Φ (.tuple #[]) I M2) : GQ (bodyPost P fn (Post G R I Φ)) .normal n L G I R M := gq_part hp (gq_end0 hr (PH.le_refl _) h)
theorem gq_r1 {t : Nat} (hr : fn.results = #[.tmp t]) (hl : lk L t = some v) (hp : M.Perm (M2 ++ J)) (h : Φ v I M2) : GQ (bodyPost P fn (Post G R I Φ)) .ret n L G I R M := gq_part hp (gq_ret1 hr hl (PH.le_refl _) h)
theorem gq_r2 {t u : Nat} (hr : fn.results = #[.tmp t, .tmp u]) (hl : lk L t = some v1) (hl2 : lk L u = some v2) (hp : M.Perm (M2 ++ J)) (h : Φ (.tuple #[v1, v2]) I M2) : GQ (bodyPost P fn (Post G R I Φ)) .ret n L G I R M :=
  gq_part hp (gq_ret2 hr hl hl2 (PH.le_refl _) h)
theorem gq_r3 {t u x : Nat} (hr : fn.results = #[.tmp t, .tmp u, .tmp x]) (hl : lk L t = some v1) (hl2 : lk L u = some v2) (hl3 : lk L x = some v3) (hp : M.Perm (M2 ++ J)) (h : Φ (.tuple #[v1, v2, v3]) I M2) :
    GQ (bodyPost P fn (Post G R I Φ)) .ret n L G I R M := gq_part hp (gq_ret3 hr hl hl2 hl3 (PH.le_refl _) h)

/-! ### Loops that keep the slots they don't write -/
def inW : List Nat → Nat → Bool
  | [], _ => false
  | k :: r, t => bif Nat.beq k t then true else inW r t
def rm (W : List Nat) : Sl → Sl
  | [] => []
  | (k, v) :: r => bif inW W k then rm W r else (k, v) :: rm W r
inductive Ext (W : List Nat) (B : Sl) : Sl → Prop where
  | refl : Ext W B B
  | cons {L : Sl} {d : Nat} {v : Value} (hd : inW W d = true) (h : Ext W B L) : Ext W B ((d, v) :: L)
theorem lk_append {A B : Sl} {t : Nat} : lk (A ++ B) t = match lk A t with | some v => some v | none => lk B t := by
  induction A with
  | nil => rfl
  | cons p A ih =>
    obtain ⟨k, u⟩ := p
    simp only [List.cons_append, lk]
    cases Nat.beq k t with
    | true => rfl
    | false => simpa using ih
theorem lk_rm {W : List Nat} {t : Nat} : ∀ {L : Sl} {v : Value}, lk (rm W L) t = some v → inW W t = false ∧ lk L t = some v
  | [], v, e => by cases e
  | (k, u) :: r, v, e => by
    simp only [rm] at e
    cases hw : inW W k with
    | true =>
      rw [hw] at e
      obtain ⟨h1, h2⟩ := lk_rm (L := r) (by simpa using e)
      refine ⟨h1, ?_⟩
      simp only [lk]
      cases hb : Nat.beq k t with
      | true => rw [Nat.eq_of_beq_eq_true hb, h1] at hw; cases hw
      | false => simpa using h2
    | false =>
      rw [hw] at e
      simp only [cond_false, lk] at e ⊢
      cases hb : Nat.beq k t with
      | true => rw [hb] at e; exact ⟨by rw [← Nat.eq_of_beq_eq_true hb]; exact hw, e⟩
      | false => rw [hb] at e; exact lk_rm (L := r) (by simpa using e)
theorem Ext.look {W : List Nat} {B L : Sl} (h : Ext W B L) {t : Nat} (ht : inW W t = false) : lk L t = lk B t := by
  induction h with
  | refl => rfl
  | @cons L d v hd h ih =>
    simp only [lk]
    cases hb : Nat.beq d t with
    | true => rw [Nat.eq_of_beq_eq_true hb, ht] at hd; cases hd
    | false => simpa using ih
theorem subsW {W : List Nat} {A C L L0 : Sl} (hA : ∀ p ∈ A, inW W p.1 = true) (hE : Ext W (A ++ rm W L0) L) (hC : subs L C) : ∀ t v, lk (C ++ rm W L0) t = some v → lk L t = some v := by
  intro t v e
  rw [lk_append] at e
  cases hc : lk C t with
  | some u => rw [hc] at e; simp only [Option.some.injEq] at e; subst e; exact subs_lk hC t _ hc
  | none =>
    rw [hc] at e
    obtain ⟨h1, h2⟩ := lk_rm e
    rw [hE.look h1, lk_append]
    have : lk A t = none := by
      cases ha : lk A t with
      | none => rfl
      | some u =>
        exfalso
        have : ∀ {A : Sl}, (∀ p ∈ A, inW W p.1 = true) → lk A t = some u → False := by
          intro A
          induction A with
          | nil => intro _ e; cases e
          | cons p A ih =>
            intro hA e
            obtain ⟨k, u'⟩ := p
            simp only [lk] at e
            cases hb : Nat.beq k t with
            | true => have := hA (k, u') (by simp); simp only at this; rw [Nat.eq_of_beq_eq_true hb, h1] at this; cases this
            | false => rw [hb] at e; exact ih (fun p hp => hA p (by simp [hp])) (by simpa using e)
        exact this hA ha
    rw [this]
    exact e
def allW (W : List Nat) : Sl → Bool
  | [] => true
  | (k, _) :: r => inW W k && allW W r
theorem allW_mem {W : List Nat} : ∀ {A : Sl}, allW W A = true → ∀ p ∈ A, inW W p.1 = true
  | [], _, p, hp => by cases hp
  | (k, u) :: r, h, p, hp => by
    simp only [allW, Bool.and_eq_true] at h
    rcases List.mem_cons.1 hp with rfl | hp
    · exact h.1
    · exact allW_mem h.2 p hp
/-- A loop: Lc tells the slots that it writes and that are read later; W: all that it writes. -/
theorem gc_loopW {α : Type} {c : Code} (W : List Nat) (Lc : α → Sl) (Mf : α → List Ent) (inv : α → Prop) (μ : α → Nat) (x0 : α)
    (h0 : inv x0) (hM : M.Perm (Mf x0 ++ J)) (hL : subs L (Lc x0))
    (round : ∀ x, inv x → GC P n (Exit.then (fun a w => ∃ y, inv y ∧ μ y < μ x ∧ (Sat G I R (Mf y) w ∧ a.defers = [] ∧ a.tmps.size = n ∧ FrOk (Lc y ++ rm W L) a)) Q) c (Lc x ++ rm W L) G I R (Mf x)) :
    GC P n Q (.loop c) L G I R M := by
  intro a w s
  have hsub : ∀ t v, lk (Lc x0 ++ rm W L) t = some v → lk L t = some v := fun t v e => by
    rw [lk_append] at e
    cases hc : lk (Lc x0) t with
    | some u => rw [hc] at e; simp only [Option.some.injEq] at e; subst e; exact subs_lk hL t _ hc
    | none => rw [hc] at e; exact (lk_rm e).2
  refine gc_loop (fun x => Lc x ++ rm W L) (fun _ => I) Mf inv μ x0 h0 rfl rfl hsub ?_ a w (s.world (s.sat.part hM))
  intro x hx a' w' s'
  exact Code.wp_mono (fun e a w q => by
    cases e <;> first | exact q | (obtain ⟨y, h1, h2, h3, h4, h5, h6⟩ := q; exact ⟨y, h1, h2, h4, h5, h6, h3⟩)) (round x hx a' w' s')
/-- The end of such a round. -/
theorem gq_roundW {α : Type} {W : List Nat} {Lc : α → Sl} {Mf : α → List Ent} {inv : α → Prop} {μ : α → Nat} {x : α} {L0 : Sl} (y : α) (hi : inv y) (hμ : μ y < μ x) (hM : M.Perm (Mf y ++ J))
    (hA : allW W (Lc x) = true) (hE : Ext W (Lc x ++ rm W L0) L) (hL : subs L (Lc y)) :
    GQ (Exit.then (fun a w => ∃ y, inv y ∧ μ y < μ x ∧ (Sat G I R (Mf y) w ∧ a.defers = [] ∧ a.tmps.size = n ∧ FrOk (Lc y ++ rm W L0) a)) Q) .normal n L G I R M := fun a w s =>
  ⟨y, hi, hμ, s.sat.part hM, s.defers, s.size, s.fr.sub (subsW (allW_mem hA) hE hL)⟩
theorem y_loadB {t b o k : Nat} {l vs : List Value} (ha : agf P t = some true) (hz : szf P t = some k) (hx : ev L x = some (.pointer (some ⟨b, o, none⟩))) (hb : Blk S b l) (hv : (l.drop o).take k = vs) (hk : vs.length = k) :
    Y P (.load t x) T L S (.agg vs.toArray) := y_loadA ha hz hx hb hk fun j u hj => by
  subst hv
  have hlt : j < k := by rw [← hk]; exact (List.getElem?_eq_some_iff.1 hj).1
  rw [List.getElem?_take_of_lt hlt, List.getElem?_drop] at hj
  exact hj
theorem y_asno {s t u : TypeId} {d : TypeDesc} {zv : Value} (ht : P.underlying t = some d) (hd : (match d with | .interface _ => false | _ => true) = true) (hz : zrf P t = some zv) (hu : u ≠ t)
    (hx : ev L x = some (.iface u v)) : Y P (.typeAssert x s t true) T L S (.tuple [zv, .bool false].toArray) := by
  obtain ⟨i, hi, hz⟩ := info_of_zr hz
  exact y_assert_no ht hd hi hz hu hx
theorem y_asnil {s t : TypeId} {d : TypeDesc} {zv : Value} (ht : P.underlying t = some d) (hd : (match d with | .interface _ => false | _ => true) = true) (hz : zrf P t = some zv)
    (hx : ev L x = some .nilIface) : Y P (.typeAssert x s t true) T L S (.tuple [zv, .bool false].toArray) := by
  obtain ⟨i, hi, hz⟩ := info_of_zr hz
  exact y_assert_nil ht hd hi hz hx
end
end Go.Proofs.YtnccebppgmnmfaaS
