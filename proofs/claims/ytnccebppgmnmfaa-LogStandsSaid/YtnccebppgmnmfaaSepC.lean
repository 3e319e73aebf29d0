/- Contracts, calls, and one law for each kind of operation that only computes. Plain theorems. -/
import Derived.Test.YtnccebppgmnmfaaSepB
import Derived.Laws.Cover1
import Derived.Laws.Bits
import Derived.WalkKit
set_option linter.unusedVariables false
set_option linter.unusedSimpArgs false
namespace Go.Proofs.YtnccebppgmnmfaaS
open Go.RowKit

/-! ### Contracts -/
def Post (G : World) (R I : PH) (Φ : Value → PH → List Ent → Prop) : Ending → World → Prop :=
  fun e w' => ∃ v I' M', e = .returned v ∧ I.le I' ∧ Sat G I' R M' w' ∧ Φ v I' M'
def Ctr (P : Program) (f : Nat) (args : List Value) (I : PH) (M : List Ent) (Φ : Value → PH → List Ent → Prop) : Prop :=
  ∀ G R w, Sat G I R M w → Calls P f args.toArray w (Post G R I Φ)
theorem Ctr.mono {P : Program} {f : Nat} {args : List Value} {I : PH} {M : List Ent} {Φ Ψ : Value → PH → List Ent → Prop} (h : Ctr P f args I M Φ)
    (hi : ∀ v I' M', I.le I' → Φ v I' M' → Ψ v I' M') : Ctr P f args I M Ψ := fun G R w s =>
  (h G R w s).mono fun e w' ⟨v, I', M', he, hl, hs, hp⟩ => ⟨v, I', M', he, hl, hs, hi v I' M' hl hp⟩
/-- It answers v, owns nothing more, and what was known is known. -/
def ans (v : Value) : Value → PH → List Ent → Prop := fun u _ M' => u = v ∧ M' = []
def argL : Nat → List Value → Sl
  | _, [] => []
  | k, v :: vs => (k, v) :: argL (k + 1) vs
theorem lk_argL {t : Nat} {v : Value} : ∀ {args : List Value} {k : Nat}, lk (argL k args) t = some v → ∃ j, t = k + j ∧ args[j]? = some v
  | [], k, e => by cases e
  | u :: us, k, e => by
    simp only [argL, lk] at e
    by_cases hb : Nat.beq k t = true
    · rw [hb] at e
      simp only [cond_true, Option.some.injEq] at e
      subst e
      exact ⟨0, by rw [Nat.eq_of_beq_eq_true hb]; rfl, rfl⟩
    · rw [Bool.not_eq_true] at hb
      rw [hb] at e
      obtain ⟨j, h1, h2⟩ := lk_argL (args := us) (k := k + 1) (by simpa using e)
      exact ⟨j + 1, by omega, by simpa using h2⟩
theorem ctr_of {P : Program} {f n : Nat} {fn : Func} {c : Code} {args : List Value} {I : PH} {M : List Ent} {Φ : Value → PH → List Ent → Prop}
    (hf : P.funcs[f]? = some fn) (hb : fn.body = some c) (hn : fn.ntmps = n) (hl : Nat.ble args.length n = true)
    (h : ∀ G R, GC P n (bodyPost P fn (Post G R I Φ)) c (argL 0 args) G I R M) : Ctr P f args I M Φ := by
  intro G R w s
  have hl' : args.length ≤ n := Nat.le_of_ble_eq_true hl
  refine calls_of_wp hf hb (h G R _ w ⟨rfl, ?_, ?_, s⟩)
  · simp [hn]; omega
  · intro t v e
    obtain ⟨j, h1, h2⟩ := lk_argL e
    simp only [Nat.zero_add] at h1
    subst h1
    have hj : t < args.length := (List.getElem?_eq_some_iff.1 h2).1
    have : (args.toArray ++ Array.replicate (fn.ntmps - args.toArray.size) undef)[t]? = some v := by
      rw [Array.getElem?_append_left (by simpa using hj)]; simpa using h2
    rw [Array.getD_eq_getD_getElem?, this]; rfl
section
variable {P : Program} {n : Nat} {ops : Array Oper} {Q : Exit → Act → World → Prop} {G : World} {I R I0 : PH} {M : List Ent} {L : Sl} {Φ : Value → PH → List Ent → Prop} {fn : Func} {v v1 v2 v3 : Value}
theorem gq_ret1 {t : Nat} (hr : fn.results = #[.tmp t]) (hl : lk L t = some v) (hle : I0.le I) (h : Φ v I M) : GQ (bodyPost P fn (Post G R I0 Φ)) .ret n L G I R M := fun a w s =>
  ⟨s.defers, v, by rw [results_tmp hr, s.fr t v hl], v, I, M, rfl, hle, s.sat, h⟩
theorem gq_ret2 {t u : Nat} (hr : fn.results = #[.tmp t, .tmp u]) (hl : lk L t = some v1) (hl2 : lk L u = some v2) (hle : I0.le I) (h : Φ (.tuple #[v1, v2]) I M) :
    GQ (bodyPost P fn (Post G R I0 Φ)) .ret n L G I R M := fun a w s =>
  ⟨s.defers, .tuple #[v1, v2], by rw [results_tmp2 hr, s.fr t v1 hl, s.fr u v2 hl2], _, I, M, rfl, hle, s.sat, h⟩
theorem gq_ret3 {t u x : Nat} (hr : fn.results = #[.tmp t, .tmp u, .tmp x]) (hl : lk L t = some v1) (hl2 : lk L u = some v2) (hl3 : lk L x = some v3) (hle : I0.le I) (h : Φ (.tuple #[v1, v2, v3]) I M) :
    GQ (bodyPost P fn (Post G R I0 Φ)) .ret n L G I R M := fun a w s =>
  ⟨s.defers, .tuple #[v1, v2, v3], by
    have := s.fr t v1 hl; have := s.fr u v2 hl2; have := s.fr x v3 hl3; simp_all [results], _, I, M, rfl, hle, s.sat, h⟩
theorem gq_ret0 (hr : fn.results = #[]) (hle : I0.le I) (h : Φ (.tuple #[]) I M) : GQ (bodyPost P fn (Post G R I0 Φ)) .ret n L G I R M := fun a w s =>
  ⟨s.defers, .tuple #[], by rw [results_none hr], _, I, M, rfl, hle, s.sat, h⟩
theorem gq_end0 (hr : fn.results = #[]) (hle : I0.le I) (h : Φ (.tuple #[]) I M) : GQ (bodyPost P fn (Post G R I0 Φ)) .normal n L G I R M := fun a w s =>
  ⟨s.defers, .tuple #[], by rw [results_none hr], _, I, M, rfl, hle, s.sat, h⟩

/-! ### Calls -/
def Enters (P : Program) (f : Nat) : Prop := ∀ args w, (callFunc f args).run P w = .ok (.enter f args) w
theorem enters_of {f : Nat} {fn : Func} (hf : P.funcs[f]? = some fn) (hn : (fn.name == "runtime.NumGoroutine") = false) (hb : fn.body.isNone = false) : Enters P f := by
  intro args w
  have h2 : fn.name ≠ "runtime.NumGoroutine" := fun e => by rw [e] at hn; simp at hn
  have h3 : fn.body ≠ none := fun e => by rw [e] at hb; simp at hb
  simp [callFunc, hf, h2, h3]
def putL (L : Sl) : Option Nat → Value → Sl
  | some d, v => (d, v) :: L
  | none, _ => L
def dstOk (n : Nat) : Option Nat → Bool
  | some d => Nat.blt d n
  | none => true
theorem St.putO {a : Act} {w : World} (s : St n L G I R M a w) {d : Option Nat} (hd : dstOk n d = true) (v : Value) : St n (putL L d v) G I R M (a.put d v) w := by
  cases d with
  | none => exact s
  | some d => exact s.put hd v
/-- What a call of a known function with known arguments leaves. -/
theorem ef_call {f : Nat} {xs : List Operand} {ts : Array TypeId} {vs : List Value} {d : Option Nat} {T : TypeId} {Mc Mr : List Ent}
    (hf : Enters P f) (ha : evs L xs = some vs) (hc : Ctr P f vs I Mc Φ) (hp : M.Perm (Mc ++ Mr)) (hd : dstOk n d = true) :
    Ef P n Q d (.call { callee := .value (.func f), args := xs.toArray, argTypes := ts }) T L G I R M
      (fun L' I' M' => ∃ v Mc', I.le I' ∧ Φ v I' Mc' ∧ L' = putL L d v ∧ M' = Mc' ++ Mr) := by
  intro pos af gd a w next s hk
  obtain ⟨R', s1, back⟩ := (s.sat.perm hp).split
  have hrun : (execOp a.eval ⟨d, .call { callee := .value (.func f), args := xs.toArray, argTypes := ts }, T, pos, af, gd⟩).run P w = .ok (.enter f vs.toArray) w := by
    have := hf vs.toArray w
    simp [execOp, resolve, Act.eval, Deferred.ofValue, invoke, s.fr.args ha, this]
  unfold Oper.wp
  rw [hrun]
  refine (hc G R' w s1).mono fun e w' ⟨v, I', M', he, hle, hs, hΦ⟩ => ?_
  subst he
  exact hk _ I' (M' ++ Mr) ⟨v, M', hle, hΦ, rfl, rfl⟩ _ w' ((s.world (back I' M' w' hle hs)).putO hd v)
/-- A call of a function value: a closure. -/
theorem ef_callv {f t : Nat} {first captured : List Value} {xs : List Operand} {ts : Array TypeId} {vs : List Value} {d : Option Nat} {T : TypeId} {Mc Mr : List Ent}
    (hv : lk L t = some (.func (.func f) first.toArray captured.toArray))
    (hf : Enters P f) (ha : evs L xs = some vs) (hc : Ctr P f (first ++ vs ++ captured) I Mc Φ) (hp : M.Perm (Mc ++ Mr)) (hd : dstOk n d = true) :
    Ef P n Q d (.call { callee := .value (.tmp t), args := xs.toArray, argTypes := ts }) T L G I R M
      (fun L' I' M' => ∃ v Mc', I.le I' ∧ Φ v I' Mc' ∧ L' = putL L d v ∧ M' = Mc' ++ Mr) := by
  intro pos af gd a w next s hk
  obtain ⟨R', s1, back⟩ := (s.sat.perm hp).split
  have ht : a.tmps.getD t undef = _ := s.fr t _ hv
  have hrun : (execOp a.eval ⟨d, .call { callee := .value (.tmp t), args := xs.toArray, argTypes := ts }, T, pos, af, gd⟩).run P w = .ok (.enter f (first ++ vs ++ captured).toArray) w := by
    have := hf (first ++ vs ++ captured).toArray w
    have hev : a.eval (.tmp t) = .func (.func f) first.toArray captured.toArray := ht
    simp [execOp, resolve, hev, Deferred.ofValue, invoke, s.fr.args ha]
    simpa using this
  unfold Oper.wp
  rw [hrun]
  refine (hc G R' w s1).mono fun e w' ⟨v, I', M', he, hle, hs, hΦ⟩ => ?_
  subst he
  exact hk _ I' (M' ++ Mr) ⟨v, M', hle, hΦ, rfl, rfl⟩ _ w' ((s.world (back I' M' w' hle hs)).putO hd v)

/-! ### Operations that only compute -/
variable {S : World → Prop} {T : TypeId} {x y z : Operand}
theorem y_move (h : ev L x = some v) : Y P (.move x) T L S v := fun _ _ _ _ a w f _ => by simp [execOp, f.val h]
theorem y_assign (h : ev L x = some v) : Y P (.assign x) T L S v := fun _ _ _ _ a w f _ => by simp [execOp, f.val h]
theorem y_pick_t {b : Bool} (hc : ev L x = some (.bool b)) (hb : b = true) (h : ev L y = some v) : Y P (.pick x y z) T L S v := fun _ _ _ _ a w f _ => by
  subst hb; simp [execOp, f.val hc, f.val h, asBool]
theorem y_pick_f {b : Bool} (hc : ev L x = some (.bool b)) (hb : b = false) (h : ev L z = some v) : Y P (.pick x y z) T L S v := fun _ _ _ _ a w f _ => by
  subst hb; simp [execOp, f.val hc, f.val h, asBool]
theorem y_add {k : IntKind} {p q r : Int} {t u : TypeId} (hx : ev L x = some (.int k p)) (hy : ev L y = some (.int k q)) (hr : k.wrap (p + q) = r) : Y P (.binOp .add t x y u) T L S (.int k r) :=
  fun _ _ _ _ a w f _ => by subst hr; simp [execOp, f.val hx, f.val hy, binOp, Op.intArith, eqGuard_add]
theorem y_sub {k : IntKind} {p q r : Int} {t u : TypeId} (hx : ev L x = some (.int k p)) (hy : ev L y = some (.int k q)) (hr : k.wrap (p - q) = r) : Y P (.binOp .sub t x y u) T L S (.int k r) :=
  fun _ _ _ _ a w f _ => by subst hr; simp [execOp, f.val hx, f.val hy, binOp, Op.intArith, eqGuard_sub]
theorem y_mul {k : IntKind} {p q r : Int} {t u : TypeId} (hx : ev L x = some (.int k p)) (hy : ev L y = some (.int k q)) (hr : k.wrap (p * q) = r) : Y P (.binOp .mul t x y u) T L S (.int k r) :=
  fun _ _ _ _ a w f _ => by subst hr; simp [execOp, f.val hx, f.val hy, binOp, Op.intArith, eqGuard_mul]
theorem y_quo {k : IntKind} {p q r : Int} {t u : TypeId} (hx : ev L x = some (.int k p)) (hy : ev L y = some (.int k q)) (hq : q ≠ 0) (hr : k.wrap (p.tdiv q) = r) : Y P (.binOp .quo t x y u) T L S (.int k r) :=
  fun _ _ _ _ a w f _ => by subst hr; simp [execOp, f.val hx, f.val hy, binOp, Op.intDiv, eqGuard_quo, hq]
theorem y_rem {k : IntKind} {p q r : Int} {t u : TypeId} (hx : ev L x = some (.int k p)) (hy : ev L y = some (.int k q)) (hq : q ≠ 0) (hr : p.tmod q = r) : Y P (.binOp .rem t x y u) T L S (.int k r) :=
  fun _ _ _ _ a w f _ => by subst hr; simp [execOp, f.val hx, f.val hy, binOp, Op.intDiv, eqGuard_rem, hq]
def ibits (op : BinOp) (k : IntKind) (p q : Int) : Int :=
  match op with
  | .and => k.wrap ((BitVec.ofInt k.bits p &&& BitVec.ofInt k.bits q).toNat : Int)
  | .or => k.wrap ((BitVec.ofInt k.bits p ||| BitVec.ofInt k.bits q).toNat : Int)
  | .xor => k.wrap ((BitVec.ofInt k.bits p ^^^ BitVec.ofInt k.bits q).toNat : Int)
  | _ => k.wrap ((BitVec.ofInt k.bits p &&& ~~~(BitVec.ofInt k.bits q)).toNat : Int)
theorem y_and {k : IntKind} {p q r : Int} {t u : TypeId} (hx : ev L x = some (.int k p)) (hy : ev L y = some (.int k q)) (hr : ibits .and k p q = r) : Y P (.binOp .and t x y u) T L S (.int k r) :=
  fun _ _ _ _ a w f _ => by subst hr; simp [execOp, f.val hx, f.val hy, binOp, Op.intBits, eqGuard, ibits]
theorem y_or {k : IntKind} {p q r : Int} {t u : TypeId} (hx : ev L x = some (.int k p)) (hy : ev L y = some (.int k q)) (hr : ibits .or k p q = r) : Y P (.binOp .or t x y u) T L S (.int k r) :=
  fun _ _ _ _ a w f _ => by subst hr; simp [execOp, f.val hx, f.val hy, binOp, Op.intBits, eqGuard, ibits]
theorem y_xor {k : IntKind} {p q r : Int} {t u : TypeId} (hx : ev L x = some (.int k p)) (hy : ev L y = some (.int k q)) (hr : ibits .xor k p q = r) : Y P (.binOp .xor t x y u) T L S (.int k r) :=
  fun _ _ _ _ a w f _ => by subst hr; simp [execOp, f.val hx, f.val hy, binOp, Op.intBits, eqGuard, ibits]
theorem y_shl {k k' : IntKind} {p q r : Int} {t u : TypeId} (hx : ev L x = some (.int k p)) (hy : ev L y = some (.int k' q)) (hq : 0 ≤ q) (hr : k.wrap (p * 2 ^ (min q.toNat k.bits)) = r) :
    Y P (.binOp .shl t x y u) T L S (.int k r) :=
  fun _ _ _ _ a w f _ => by subst hr; simp [execOp, f.val hx, f.val hy, binOp, Op.shift, eqGuard, Int.not_lt.2 hq]
theorem y_shr {k k' : IntKind} {p q r : Int} {t u : TypeId} (hx : ev L x = some (.int k p)) (hy : ev L y = some (.int k' q)) (hq : 0 ≤ q) (hr : p.fdiv (2 ^ (min q.toNat k.bits)) = r) :
    Y P (.binOp .shr t x y u) T L S (.int k r) :=
  fun _ _ _ _ a w f _ => by subst hr; simp [execOp, f.val hx, f.val hy, binOp, Op.shift, eqGuard, Int.not_lt.2 hq]
theorem int_beq (p q : Int) : (p == q) = decide (p = q) := by by_cases h : p = q <;> simp [h]
theorem list_beq (p q : List UInt8) : (p == q) = decide (p = q) := by by_cases h : p = q <;> simp [h]
section
variable {k : IntKind} {p q : Int} {t u : TypeId}
theorem y_lss (hx : ev L x = some (.int k p)) (hy : ev L y = some (.int k q)) : Y P (.binOp .lss t x y u) T L S (.bool (decide (p < q))) :=
  fun _ _ _ _ a w f _ => by simp [execOp, f.val hx, f.val hy, binOp, Op.intCmp, eqGuard]
theorem y_leq (hx : ev L x = some (.int k p)) (hy : ev L y = some (.int k q)) : Y P (.binOp .leq t x y u) T L S (.bool (decide (p ≤ q))) :=
  fun _ _ _ _ a w f _ => by simp [execOp, f.val hx, f.val hy, binOp, Op.intCmp, eqGuard]
theorem y_gtr (hx : ev L x = some (.int k p)) (hy : ev L y = some (.int k q)) : Y P (.binOp .gtr t x y u) T L S (.bool (decide (q < p))) :=
  fun _ _ _ _ a w f _ => by simp [execOp, f.val hx, f.val hy, binOp, Op.intCmp, eqGuard]
theorem y_geq (hx : ev L x = some (.int k p)) (hy : ev L y = some (.int k q)) : Y P (.binOp .geq t x y u) T L S (.bool (decide (q ≤ p))) :=
  fun _ _ _ _ a w f _ => by simp [execOp, f.val hx, f.val hy, binOp, Op.intCmp, eqGuard]
theorem y_eql (hx : ev L x = some (.int k p)) (hy : ev L y = some (.int k q)) : Y P (.binOp .eql t x y u) T L S (.bool (decide (p = q))) :=
  fun _ _ _ _ a w f _ => by simp [execOp, f.val hx, f.val hy, binOp, Op.intCmp, eqGuard, int_beq]
theorem y_neq (hx : ev L x = some (.int k p)) (hy : ev L y = some (.int k q)) : Y P (.binOp .neq t x y u) T L S (.bool (decide (p ≠ q))) :=
  fun _ _ _ _ a w f _ => by simp [execOp, f.val hx, f.val hy, binOp, Op.intCmp, eqGuard, bne, int_beq]
end
theorem y_not {b : Bool} {t : TypeId} (hx : ev L x = some (.bool b)) : Y P (.unOp .not t x) T L S (.bool (!b)) := fun _ _ _ _ a w f _ => by simp [execOp, f.val hx, Op.unary]
theorem y_inv {k : IntKind} {p r : Int} {t : TypeId} (hx : ev L x = some (.int k p)) (hr : ibits .xor k (if k.signed then -1 else k.max) p = r) : Y P (.unOp .xor t x) T L S (.int k r) :=
  fun _ _ _ _ a w f _ => by subst hr; simp [execOp, f.val hx, Op.unary, Op.intBits, ibits]
theorem y_neg {k : IntKind} {p r : Int} {t : TypeId} (hx : ev L x = some (.int k p)) (hr : k.wrap (0 - p) = r) : Y P (.unOp .neg t x) T L S (.int k r) :=
  fun _ _ _ _ a w f _ => by subst hr; simp [execOp, f.val hx, Op.unary, Op.intArith]
theorem y_conv {k k' : IntKind} {p r : Int} {s t : TypeId} {d : TypeDesc} (hs : P.underlying s = some d) (ht : P.underlying t = some (.int k)) (hx : ev L x = some (.int k' p)) (hr : k.wrap p = r) :
    Y P (.convert s t x) T L S (.int k r) :=
  fun _ _ _ _ a w f _ => by subst hr; simp [execOp, f.val hx, convert, underlying, hs, ht, Conv.intToInt]
theorem y_extract {vs : List Value} {i : Nat} (hx : ev L x = some (.tuple vs.toArray)) (hi : vs[i]? = some v) : Y P (.extract x i) T L S v :=
  fun _ _ _ _ a w f _ => by simp [execOp, f.val hx, Instr.extract, hi]

/-! ### Strings, as lists of bytes -/
abbrev bs (l : List UInt8) : ByteArray := ⟨l.toArray⟩
theorem bs_size (l : List UInt8) : (bs l).size = l.length := rfl
theorem bs_append (l k : List UInt8) : bs l ++ bs k = bs (l ++ k) := ByteArray.mk_append_mk l k
theorem bs_inj {l k : List UInt8} (h : bs l = bs k) : l = k := by
  have : (bs l).data.toList = (bs k).data.toList := by rw [h]
  simpa using this
theorem bs_of (s : ByteArray) : s = bs s.data.toList := by cases s; simp [bs]
theorem y_sadd {l k : List UInt8} {t u : TypeId} (hx : ev L x = some (.string (bs l))) (hy : ev L y = some (.string (bs k))) (hb : l.length + k.length ≤ 9223372036854775807) :
    Y P (.binOp .add t x y u) T L S (.string (bs (l ++ k))) := fun _ _ _ _ a w f _ => by
  have h := run_string_add_sum (P := P) (w := w) (bs l) (bs k) (by simpa [bs_size] using hb)
  simp only [bs_append] at h
  simp [execOp, f.val hx, f.val hy, binOp, eqGuard, h]
theorem y_seql {l k : List UInt8} {t u : TypeId} (hx : ev L x = some (.string (bs l))) (hy : ev L y = some (.string (bs k))) : Y P (.binOp .eql t x y u) T L S (.bool (decide (l = k))) :=
  fun _ _ _ _ a w f _ => by simp [execOp, f.val hx, f.val hy, binOp, eqGuard, Op.stringOp, ByteArray.toList_eq, list_beq]
theorem y_sneq {l k : List UInt8} {t u : TypeId} (hx : ev L x = some (.string (bs l))) (hy : ev L y = some (.string (bs k))) : Y P (.binOp .neq t x y u) T L S (.bool (decide (l ≠ k))) :=
  fun _ _ _ _ a w f _ => by simp [execOp, f.val hx, f.val hy, binOp, eqGuard, Op.stringOp, ByteArray.toList_eq, list_beq]
theorem y_slss {l k : List UInt8} {t u : TypeId} (hx : ev L x = some (.string (bs l))) (hy : ev L y = some (.string (bs k))) : Y P (.binOp .lss t x y u) T L S (.bool (Op.bytesLess l k)) :=
  fun _ _ _ _ a w f _ => by simp [execOp, f.val hx, f.val hy, binOp, eqGuard, Op.stringOp, ByteArray.toList_eq]
theorem y_sleq {l k : List UInt8} {t u : TypeId} (hx : ev L x = some (.string (bs l))) (hy : ev L y = some (.string (bs k))) : Y P (.binOp .leq t x y u) T L S (.bool (Op.bytesLess l k || decide (l = k))) :=
  fun _ _ _ _ a w f _ => by simp [execOp, f.val hx, f.val hy, binOp, eqGuard, Op.stringOp, ByteArray.toList_eq, list_beq]
theorem y_sgeq {l k : List UInt8} {t u : TypeId} (hx : ev L x = some (.string (bs l))) (hy : ev L y = some (.string (bs k))) : Y P (.binOp .geq t x y u) T L S (.bool (!Op.bytesLess l k)) :=
  fun _ _ _ _ a w f _ => by simp [execOp, f.val hx, f.val hy, binOp, eqGuard, Op.stringOp, ByteArray.toList_eq]
theorem y_slen {l : List UInt8} {t : TypeId} (ht : P.underlying t = some .string) (hx : ev L x = some (.string (bs l))) :
    Y P (.call { callee := .builtin .len, args := [x].toArray, argTypes := [t].toArray }) T L S (.int .i64 l.length) := fun _ _ _ _ a w f _ => by
  simp [execOp, resolve, invoke, builtin, f.val hx, Builtin.len_, underlying, ht, goInt, bs_size]
theorem y_len {b : Option Addr} {m c : Nat} {t e : TypeId} (ht : P.underlying t = some (.slice e)) (hx : ev L x = some (.slice b m c)) :
    Y P (.call { callee := .builtin .len, args := [x].toArray, argTypes := [t].toArray }) T L S (.int .i64 m) := fun _ _ _ _ a w f _ => by
  simp [execOp, resolve, invoke, builtin, f.val hx, Builtin.len_, underlying, ht, goInt]
theorem y_sindex {l : List UInt8} {t : TypeId} {k : IntKind} {i : Int} {b : UInt8} (ht : P.underlying t = some .string) (hx : ev L x = some (.string (bs l))) (hy : ev L y = some (.int k i))
    (h0 : 0 ≤ i) (hb : l[i.toNat]? = some b) : Y P (.index t x y) T L S (.int .u8 b.toNat) := fun _ _ _ _ a w f _ => by
  have : (bs l)[i.toNat]? = some b := by
    have hlt : i.toNat < l.length := (List.getElem?_eq_some_iff.1 hb).1
    rw [ByteArray.getElem?_lt' _ _ (by simpa [bs_size] using hlt)]
    rw [List.getElem?_eq_getElem hlt] at hb
    rw [← hb]; rfl
  simp [execOp, f.val hx, f.val hy, Instr.index, asIntOf, underlying, ht, h0, this]
theorem bs_extract (l : List UInt8) (i j : Nat) : (bs l).extract i j = bs ((l.take j).drop i) := by
  have : ((bs l).extract i j).data.toList = (l.take j).drop i := by
    simp [ByteArray.data_extract, List.extract_eq_take_drop, List.drop_take]
  rw [bs_of ((bs l).extract i j), this]
theorem y_sslice {l : List UInt8} {t : TypeId} {i j : Int} {ki kj : IntKind} (ht : P.underlying t = some .string) (hx : ev L x = some (.string (bs l))) (hy : ev L y = some (.int ki i)) (hz : ev L z = some (.int kj j))
    (h0 : 0 ≤ i) (h1 : i ≤ j) (h2 : j ≤ l.length) : Y P (.slice t x (some y) (some z) none) T L S (.string (bs ((l.take j.toNat).drop i.toNat))) := fun _ _ _ _ a w f _ => by
  have hj : 0 ≤ j := by omega
  have hi : i ≤ (j.toNat : Int) := by omega
  have hm : ¬ max j 0 < i := by omega
  simp [execOp, f.val hx, f.val hy, f.val hz, Instr.sliceAt, Instr.slice, underlying, ht, Instr.sliceBounds, Instr.sliceBound, asIntOf, bs_size, h0, h1, h2, hj, hi, hm, bs_extract]
theorem y_sslice_h {l : List UInt8} {t : TypeId} {j : Int} {kj : IntKind} (ht : P.underlying t = some .string) (hx : ev L x = some (.string (bs l))) (hz : ev L z = some (.int kj j))
    (h0 : 0 ≤ j) (h2 : j ≤ l.length) : Y P (.slice t x none (some z) none) T L S (.string (bs (l.take j.toNat))) := fun _ _ _ _ a w f _ => by
  simp [execOp, f.val hx, f.val hz, Instr.sliceAt, Instr.slice, underlying, ht, Instr.sliceBounds, Instr.sliceBound, asIntOf, bs_size, h0, h2, bs_extract]
theorem y_sslice_l {l : List UInt8} {t : TypeId} {i : Int} {ki : IntKind} (ht : P.underlying t = some .string) (hx : ev L x = some (.string (bs l))) (hy : ev L y = some (.int ki i))
    (h0 : 0 ≤ i) (h2 : i ≤ l.length) : Y P (.slice t x (some y) none none) T L S (.string (bs (l.drop i.toNat))) := fun _ _ _ _ a w f _ => by
  have hk : (l.take l.length).drop i.toNat = l.drop i.toNat := by rw [List.take_length]
  simp [execOp, f.val hx, f.val hy, Instr.sliceAt, Instr.slice, underlying, ht, Instr.sliceBounds, Instr.sliceBound, asIntOf, bs_size, h0, h2, bs_extract, hk]

/-! ### Interface values -/
theorem y_mkiface {t : TypeId} (ht : P.concrete t = true) (hx : ev L x = some v) : Y P (.makeInterface t x) T L S (.iface t v) := fun _ _ _ _ a w f _ => by
  simp [execOp, f.val hx, run_makeInterface, ht]
theorem y_assert_yes {s t : TypeId} {d : TypeDesc} (ht : P.underlying t = some d) (hd : (match d with | .interface _ => false | _ => true) = true) (hx : ev L x = some (.iface t v)) :
    Y P (.typeAssert x s t true) T L S (.tuple [v, .bool true].toArray) := fun _ _ _ _ a w f _ => by
  cases d <;> simp_all [execOp, f.val hx, Instr.typeAssert, underlying]
theorem y_assert_no {s t u : TypeId} {d : TypeDesc} {zv : Value} (ht : P.underlying t = some d) (hd : (match d with | .interface _ => false | _ => true) = true) {i : TypeInfo} (hi : P.info? t = some i) (hz : i.zero = some zv) (hu : u ≠ t)
    (hx : ev L x = some (.iface u v)) : Y P (.typeAssert x s t true) T L S (.tuple [zv, .bool false].toArray) := fun _ _ _ _ a w f _ => by
  cases d <;> simp_all [execOp, f.val hx, Instr.typeAssert, underlying, zeroValue, typeInfo]
theorem y_assert_nil {s t : TypeId} {d : TypeDesc} {zv : Value} (ht : P.underlying t = some d) (hd : (match d with | .interface _ => false | _ => true) = true) {i : TypeInfo} (hi : P.info? t = some i) (hz : i.zero = some zv)
    (hx : ev L x = some .nilIface) : Y P (.typeAssert x s t true) T L S (.tuple [zv, .bool false].toArray) := fun _ _ _ _ a w f _ => by
  cases d <;> simp_all [execOp, f.val hx, Instr.typeAssert, underlying, zeroValue, typeInfo]
end
end Go.Proofs.YtnccebppgmnmfaaS
