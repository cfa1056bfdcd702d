/- The laws of the operations, for the engine. No condition. -/
import Derived.Test.YtlbdlkgboliikaaL3
namespace Go.Proofs.Ytlbdlkgboliikaa
namespace Fw
set_option linter.unusedVariables false
set_option linter.unusedSimpArgs false
open Go.RowKit

/-- a value that is there only where c holds -/
def gv (c : Bool) (v : Value) : Value := bif c then v else undef
theorem gv_of {c : Bool} {v : Value} (h : c = true) : gv c v = v := by subst h; rfl
theorem and_l {a b : Bool} (h : (a && b) = true) : a = true := by cases a <;> simp_all
theorem and_r {a b : Bool} (h : (a && b) = true) : b = true := by cases a <;> simp_all
theorem or_l {a b : Bool} (h : (a || b) = false) : a = false := by cases a <;> simp_all
theorem or_r {a b : Bool} (h : (a || b) = false) : b = false := by cases b <;> simp_all
theorem not_f {a : Bool} (h : (!a) = false) : a = true := by cases a <;> simp_all
theorem bne_t {α : Type} [BEq α] [LawfulBEq α] {a b : α} (h : (a != b) = true) : a ≠ b := by simpa using h
theorem bne_f {α : Type} [BEq α] [LawfulBEq α] {a b : α} (h : (a != b) = false) : a = b := by simpa using h
theorem not_t {a : Bool} (h : (!a) = true) : a = false := by cases a <;> simp_all
theorem pk_or {c g y : Bool} (hc : c = true) : (bif g then Value.bool true else gv (c && !g) (.bool y)) = .bool (g || y) := by subst hc; cases g <;> rfl
theorem pk_and {c g y : Bool} (hc : c = true) : (bif g then gv (c && g) (.bool y) else Value.bool false) = .bool (g && y) := by subst hc; cases g <;> rfl

section
variable {P : Program} {N : Nat} {C : World → Prop} {Q : Exit → Env → World → Prop} {σ : Env} {o : Oper} {S X : Nat → Prop} {E B : World} {L : List Rowb} {ops : Array Oper} {rest : List Oper}

/-- a guarded operation; the guard's slot may itself be there only where c0 holds -/
theorem WR.g {v : Value} {j dj : Nat} {c0 g want : Bool} (hg : o.guard = some (j, want)) (hj : (ops[j]?).bind (·.dst) = some dj) (hs : σ dj = gv c0 (.bool g)) (hd : okDst N o.dst = true)
    (h : (c0 && (bif want then g else !g)) = true → QO P C σ o v) (k : WR P N ops C Q rest (updo σ o.dst (gv (c0 && (bif want then g else !g)) v))) : WR P N ops C Q (o :: rest) σ := by
  cases c0 with
  | true =>
    refine WR.qg hg hj hs hd (fun e => h (by subst e; cases g <;> rfl)) ?_
    have : gd g want v = gv (true && (bif want then g else !g)) v := by cases g <;> cases want <;> rfl
    rwa [this]
  | false =>
    intro w hw a ha
    refine wpList_step fun K hK => ?_
    have hy : yielded ops a.tmps j = none := by
      have h1 := ha.read dj
      rw [hs, Array.getD_eq_getD_getElem?] at h1
      unfold yielded
      rw [hj]
      simp only [Option.bind_some]
      cases hq : a.tmps[dj]? with
      | none => rfl
      | some x => rw [hq] at h1; simp [gv, undef] at h1; subst h1; rfl
    have : ¬ Region.wanted o (yielded ops a.tmps) = true := by simp [Region.wanted, hg, hy]
    rw [if_neg this]
    exact hK _ _ (k w hw _ (ha.put hd undef))

theorem WQ.g {v : Value} {j dj : Nat} {c0 g want : Bool} (hg : o.guard = some (j, want)) (hj : (ops[j]?).bind (·.dst) = some dj) (hs : σ dj = gv c0 (.bool g)) (hd : okDst N o.dst = true)
    (h : (c0 && (bif want then g else !g)) = true → QO P C σ o v) (k : WQ P N ops C Q rest (updo σ o.dst (gv (c0 && (bif want then g else !g)) v))) : WQ P N ops C Q (o :: rest) σ := by
  cases c0 with
  | true =>
    refine WQ.qg hg hj hs hd (fun e => h (by subst e; cases g <;> rfl)) ?_
    have : gd g want v = gv (true && (bif want then g else !g)) v := by cases g <;> cases want <;> rfl
    rwa [this]
  | false =>
    intro a ha
    refine wpQuiet_step fun K hK => ?_
    have hy : yielded ops a.tmps j = none := by
      have h1 := ha.read dj
      rw [hs, Array.getD_eq_getD_getElem?] at h1
      unfold yielded
      rw [hj]
      simp only [Option.bind_some]
      cases hq : a.tmps[dj]? with
      | none => rfl
      | some x => rw [hq] at h1; simp [gv, undef] at h1; subst h1; rfl
    have : ¬ Region.wanted o (yielded ops a.tmps) = true := by simp [Region.wanted, hg, hy]
    rw [if_neg this]
    exact hK _ (k _ (ha.put hd undef))

theorem WR.g1 {v : Value} {j dj d : Nat} {c0 g : Bool} (hg : o.guard = some (j, true)) (hj : (ops[j]?).bind (·.dst) = some dj) (hs : σ dj = gv c0 (.bool g)) (hdst : o.dst = some d) (hd : Nat.blt d N = true)
    (h : (c0 && g) = true → QO P C σ o v) (k : WR P N ops C Q rest (upd σ d (gv (c0 && g) v))) : WR P N ops C Q (o :: rest) σ := WR.g hg hj hs (by rw [hdst]; exact hd) h (by rw [hdst]; exact k)
theorem WR.g0 {v : Value} {j dj d : Nat} {c0 g : Bool} (hg : o.guard = some (j, false)) (hj : (ops[j]?).bind (·.dst) = some dj) (hs : σ dj = gv c0 (.bool g)) (hdst : o.dst = some d) (hd : Nat.blt d N = true)
    (h : (c0 && !g) = true → QO P C σ o v) (k : WR P N ops C Q rest (upd σ d (gv (c0 && !g) v))) : WR P N ops C Q (o :: rest) σ := WR.g hg hj hs (by rw [hdst]; exact hd) h (by rw [hdst]; exact k)
theorem WR.v {v : Value} {d : Nat} (hg : o.guard = none) (hdst : o.dst = some d) (hd : Nat.blt d N = true) (h : QO P C σ o v) (k : WR P N ops C Q rest (upd σ d v)) : WR P N ops C Q (o :: rest) σ :=
  WR.q hg (by rw [hdst]; exact hd) h (by rw [hdst]; exact k)
theorem WQ.g1 {v : Value} {j dj d : Nat} {c0 g : Bool} (hg : o.guard = some (j, true)) (hj : (ops[j]?).bind (·.dst) = some dj) (hs : σ dj = gv c0 (.bool g)) (hdst : o.dst = some d) (hd : Nat.blt d N = true)
    (h : (c0 && g) = true → QO P C σ o v) (k : WQ P N ops C Q rest (upd σ d (gv (c0 && g) v))) : WQ P N ops C Q (o :: rest) σ := WQ.g hg hj hs (by rw [hdst]; exact hd) h (by rw [hdst]; exact k)
theorem WQ.g0 {v : Value} {j dj d : Nat} {c0 g : Bool} (hg : o.guard = some (j, false)) (hj : (ops[j]?).bind (·.dst) = some dj) (hs : σ dj = gv c0 (.bool g)) (hdst : o.dst = some d) (hd : Nat.blt d N = true)
    (h : (c0 && !g) = true → QO P C σ o v) (k : WQ P N ops C Q rest (upd σ d (gv (c0 && !g) v))) : WQ P N ops C Q (o :: rest) σ := WQ.g hg hj hs (by rw [hdst]; exact hd) h (by rw [hdst]; exact k)
theorem WQ.v {v : Value} {d : Nat} (hg : o.guard = none) (hdst : o.dst = some d) (hd : Nat.blt d N = true) (h : QO P C σ o v) (k : WQ P N ops C Q rest (upd σ d v)) : WQ P N ops C Q (o :: rest) σ :=
  WQ.q hg (by rw [hdst]; exact hd) h (by rw [hdst]; exact k)

theorem wr64 {e r : Int} (h : e = r) (h1 : -9223372036854775808 ≤ r ∧ r ≤ 9223372036854775807) : IntKind.i64.wrap e = r := by subst h; exact IntWalk.i64_in _ h1

/-! ### operations that only compute -/
theorem q_move {x : Operand} {v : Value} (ho : o.op = .move x) (hv : ev σ x = v) : QV P C σ o v := fun w _ => by simp [execOp, ho, hv, Sem.run_pure]
theorem q_assign {x : Operand} {v : Value} (ho : o.op = .assign x) (hv : ev σ x = v) : QV P C σ o v := fun w _ => by simp [execOp, ho, hv, Sem.run_pure]
theorem q_pick {c a b : Operand} {g : Bool} {v : Value} (ho : o.op = .pick c a b) (hc : ev σ c = .bool g) (hv : (bif g then ev σ a else ev σ b) = v) : QV P C σ o v :=
  fun w _ => by
    subst hv
    simp only [execOp, ho, hc, asBool, Sem.run_bind, Sem.run_pure, Result.andThen_ok]
    cases g <;> rfl
theorem q_nil {x : Operand} {A : Option Addr} (ho : o.op = .nilCheck x) (hv : ev σ x = .pointer A) (hs : A.isSome = true) : QV P C σ o (.pointer A) :=
  fun w _ => by
    cases A with
    | none => cases hs
    | some a => simp [execOp, ho, hv, Sem.run_pure]

section ints
variable {x y : Operand} {t ty : TypeId} {k : IntKind} {a b : Int}
theorem q_lss (ho : o.op = .binOp .lss t x y ty) (hx : ev σ x = .int k a) (hy : ev σ y = .int k b) : QV P C σ o (.bool (decide (a < b))) :=
  fun w _ => by simp [execOp, ho, hx, hy, eqGuard, binOp, Op.intCmp, Sem.run_pure, Sem.run_bind]
theorem q_leq (ho : o.op = .binOp .leq t x y ty) (hx : ev σ x = .int k a) (hy : ev σ y = .int k b) : QV P C σ o (.bool (decide (a ≤ b))) :=
  fun w _ => by simp [execOp, ho, hx, hy, eqGuard, binOp, Op.intCmp, Sem.run_pure, Sem.run_bind]
theorem q_gtr (ho : o.op = .binOp .gtr t x y ty) (hx : ev σ x = .int k a) (hy : ev σ y = .int k b) : QV P C σ o (.bool (decide (b < a))) :=
  fun w _ => by simp [execOp, ho, hx, hy, eqGuard, binOp, Op.intCmp, Sem.run_pure, Sem.run_bind]
theorem q_geq (ho : o.op = .binOp .geq t x y ty) (hx : ev σ x = .int k a) (hy : ev σ y = .int k b) : QV P C σ o (.bool (decide (b ≤ a))) :=
  fun w _ => by simp [execOp, ho, hx, hy, eqGuard, binOp, Op.intCmp, Sem.run_pure, Sem.run_bind]
theorem q_eql (ho : o.op = .binOp .eql t x y ty) (hx : ev σ x = .int k a) (hy : ev σ y = .int k b) : QV P C σ o (.bool (a == b)) :=
  fun w _ => by simp [execOp, ho, hx, hy, eqGuard, binOp, Op.intCmp, Sem.run_pure, Sem.run_bind]
theorem q_neq (ho : o.op = .binOp .neq t x y ty) (hx : ev σ x = .int k a) (hy : ev σ y = .int k b) : QV P C σ o (.bool (a != b)) :=
  fun w _ => by simp [execOp, ho, hx, hy, eqGuard, binOp, Op.intCmp, Sem.run_pure, Sem.run_bind]
theorem q_add {r : Int} (ho : o.op = .binOp .add t x y ty) (hx : ev σ x = .int k a) (hy : ev σ y = .int k b) (hr : k.wrap (a + b) = r) : QV P C σ o (.int k r) :=
  fun w _ => by subst hr; simp [execOp, ho, hx, hy, eqGuard, binOp, Op.intArith, Sem.run_pure, Sem.run_bind]
theorem q_sub {r : Int} (ho : o.op = .binOp .sub t x y ty) (hx : ev σ x = .int k a) (hy : ev σ y = .int k b) (hr : k.wrap (a - b) = r) : QV P C σ o (.int k r) :=
  fun w _ => by subst hr; simp [execOp, ho, hx, hy, eqGuard, binOp, Op.intArith, Sem.run_pure, Sem.run_bind]
theorem q_mul {r : Int} (ho : o.op = .binOp .mul t x y ty) (hx : ev σ x = .int k a) (hy : ev σ y = .int k b) (hr : k.wrap (a * b) = r) : QV P C σ o (.int k r) :=
  fun w _ => by subst hr; simp [execOp, ho, hx, hy, eqGuard, binOp, Op.intArith, Sem.run_pure, Sem.run_bind]
theorem q_neg {r : Int} (ho : o.op = .unOp .neg t x) (hx : ev σ x = .int k a) (hr : k.wrap (0 - a) = r) : QV P C σ o (.int k r) :=
  fun w _ => by subst hr; simp [execOp, ho, hx, Op.unary, Op.intArith, Sem.run_pure, Sem.run_bind]
end ints

theorem q_not {x : Operand} {t : TypeId} {g : Bool} (ho : o.op = .unOp .not t x) (hx : ev σ x = .bool g) : QV P C σ o (.bool !g) :=
  fun w _ => by simp [execOp, ho, hx, Op.unary, Sem.run_pure, Sem.run_bind]

theorem q_extract {x : Operand} {i : Nat} {vs : Array Value} {v : Value} (ho : o.op = .extract x i) (hx : ev σ x = .tuple vs) (hv : vs[i]? = some v) : QV P C σ o v :=
  fun w _ => by simp [execOp, ho, hx, Instr.extract, hv, Sem.run_pure, Sem.run_bind]

theorem q_len_slice {x : Operand} {t e : TypeId} {A : Option Addr} {n c : Nat} (ho : o.op = .call { callee := .builtin .len, args := #[x], argTypes := #[t] }) (ht : P.underlying t = some (.slice e)) (hx : ev σ x = .slice A n c) :
    QV P C σ o (.int .i64 n) :=
  fun w _ => by simp [execOp, ho, hx, resolve, invoke, builtin, Builtin.len_, run_underlying ht, goInt, Sem.run_pure, Sem.run_bind]
theorem q_len_str {x : Operand} {t : TypeId} {s : ByteArray} (ho : o.op = .call { callee := .builtin .len, args := #[x], argTypes := #[t] }) (ht : P.underlying t = some .string) (hx : ev σ x = .string s) :
    QV P C σ o (.int .i64 s.size) :=
  fun w _ => by simp [execOp, ho, hx, resolve, invoke, builtin, Builtin.len_, run_underlying ht, goInt, Sem.run_pure, Sem.run_bind]

theorem q_build {t : TypeId} {parts : Array (Nat × Operand)} {v : Value} (ho : o.op = .build t parts) (hr : ∀ w, (Instr.build t (parts.map fun (i, x) => (i, ev σ x))).run P w = .ok v w) : QV P C σ o v :=
  fun w _ => by simp [execOp, ho, hr w, Sem.run_pure, Sem.run_bind]

/-! ### addresses -/
def ptrAt (A : Option Addr) (j : Nat) : Value := .pointer (A.map fun a => a.add j)

theorem add_add (a : Addr) (i j : Nat) : (a.add i).add j = a.add (i + j) := by
  unfold Addr.add
  by_cases hi : i = 0 <;> by_cases hj : j = 0 <;> simp [hi, hj, Nat.add_assoc]
theorem addr_add (b o i : Nat) : (⟨b, o, none⟩ : Addr).add i = ⟨b, o + i, none⟩ := by unfold Addr.add; split <;> simp_all

theorem q_index_addr {x y : Operand} {t e : TypeId} {A : Option Addr} {n c i sz : Nat} {k : IntKind} (ho : o.op = .indexAddr t x y) (ht : P.underlying t = some (.slice e)) (hsz : ∀ w, (sizeOf e).run P w = .ok sz w)
    (hx : ev σ x = .slice A n c) (hy : ev σ y = .int k (i : Int)) (hi : i < n) (hA : A.isSome = true) : QV P C σ o (ptrAt A (i * sz)) :=
  fun w _ => by
    cases A with
    | none => cases hA
    | some a => simp [execOp, ho, hx, hy, Instr.indexAt, asIntOf, run_underlying ht, hsz, ptrAt, hi, Sem.run_pure, Sem.run_bind, Int.toNat_natCast]

/-- field f of the struct type s lies off cells behind its head -/
def FieldAt (P : Program) (s : TypeId) (f off : Nat) : Prop := ∃ fs fd sz, P.underlying s = some (.struct fs) ∧ fs[f]? = some fd ∧ fd.offset = off ∧ ∀ w, (sizeOf fd.type).run P w = .ok (sz + 1) w

theorem q_field_addr {x : Operand} {s : TypeId} {f off : Nat} {A : Option Addr} {j : Nat} (j' : Nat) (hF : FieldAt P s f off) (ho : o.op = .fieldAddr s x f) (hx : ev σ x = ptrAt A j) (hA : A.isSome = true) (hj : j + off = j') : QV P C σ o (ptrAt A j') :=
  fun w _ => by
    obtain ⟨fs, fd, sz, hs, hf, rfl, hz⟩ := hF
    cases A with
    | none => cases hA
    | some a => subst hj; simp [execOp, ho, hx, Instr.fieldAt, run_underlying hs, hf, fieldPlace, hz, ptrAt, Sem.run_pure, Sem.run_bind, add_add, Instr.sureAddr]

theorem q_field_loc {x : Operand} {s : TypeId} {f off : Nat} {g j : Nat} (j' : Nat) (hF : FieldAt P s f off) (ho : o.op = .fieldAddr s x f) (hx : ev σ x = .pointer (some ⟨g, j, none⟩)) (hj : j + off = j') : QV P C σ o (.pointer (some ⟨g, j', none⟩)) :=
  fun w _ => by
    obtain ⟨fs, fd, sz, hs, hf, rfl, hz⟩ := hF
    subst hj; simp [execOp, ho, hx, Instr.fieldAt, run_underlying hs, hf, fieldPlace, hz, Sem.run_pure, Sem.run_bind, addr_add, Instr.sureAddr]
end
end Fw
end Go.Proofs.Ytlbdlkgboliikaa
