/- The laws of the operations that turn nothing. No condition. -/
import Derived.Test.YtogmioecalmalaaGreatK3
import Derived.Laws.StructEq
import Derived.Laws.BytesString
import Derived.Laws.Shifts
namespace Go.Proofs.YtogmioecalmalaaGreat
namespace Fw
set_option linter.unusedVariables false
set_option linter.unusedSimpArgs false
set_option linter.unusedSectionVars false
open Go.RowKit
section
variable {P : Program} {N : FN} {C : World → Prop} {Q : Exit → Env → World → Prop} {σ : Env} {o : Oper} {ops : Array Oper} {rest : List Oper}
theorem cI {x : Operand} {v : Value} (ho : o.op = .move x) (hv : ev σ x = v) : QV P C σ o v := fun w _ => by simp [execOp, ho, hv, Sem.run_pure]
theorem fN {x : Operand} {v : Value} (ho : o.op = .assign x) (hv : ev σ x = v) : QV P C σ o v := fun w _ => by simp [execOp, ho, hv, Sem.run_pure]
theorem fU {c a b : Operand} {g : Bool} {v : Value} (ho : o.op = .pick c a b) (hc : ev σ c = .bool g) (hv : (bif g then ev σ a else ev σ b) = v) : QV P C σ o v :=
 fun w _ => by
  subst hv
  simp only [execOp, ho, hc, asBool, Sem.run_bind, Sem.run_pure, Result.andThen_ok]
  cases g <;> rfl
theorem Av {x : Operand} {A : Option Addr} (ho : o.op = .nilCheck x) (hv : ev σ x = .pointer A) (hs : A.isSome = true) : QV P C σ o (.pointer A) :=
 fun w _ => by
  cases A with
  | none => cases hs
  | some a => simp [execOp, ho, hv, Sem.run_pure]
theorem tP {c a b : Operand} {v : Value} (ho : o.op = .pick c a b) (hc : ev σ c = .bool true) (ha : ev σ a = v) : QV P C σ o v := fU ho hc ha
section ints
variable {x y : Operand} {t ty : TypeId} {k k' : IntKind} {a b : Int}
theorem aI (ho : o.op = .binOp .lss t x y ty := by exact rfl) (hx : ev σ x = .int k a := by exact rfl) (hy : ev σ y = .int k b := by exact rfl) : QV P C σ o (.bool (decide (a < b))) :=
 fun w _ => by simp [execOp, ho, hx, hy, eqGuard, binOp, Op.intCmp, Sem.run_pure, Sem.run_bind]
theorem dc (ho : o.op = .binOp .leq t x y ty := by exact rfl) (hx : ev σ x = .int k a := by exact rfl) (hy : ev σ y = .int k b := by exact rfl) : QV P C σ o (.bool (decide (a ≤ b))) :=
 fun w _ => by simp [execOp, ho, hx, hy, eqGuard, binOp, Op.intCmp, Sem.run_pure, Sem.run_bind]
theorem bJ (ho : o.op = .binOp .gtr t x y ty := by exact rfl) (hx : ev σ x = .int k a := by exact rfl) (hy : ev σ y = .int k b := by exact rfl) : QV P C σ o (.bool (decide (b < a))) :=
 fun w _ => by simp [execOp, ho, hx, hy, eqGuard, binOp, Op.intCmp, Sem.run_pure, Sem.run_bind]
theorem bX (ho : o.op = .binOp .geq t x y ty := by exact rfl) (hx : ev σ x = .int k a := by exact rfl) (hy : ev σ y = .int k b := by exact rfl) : QV P C σ o (.bool (decide (b ≤ a))) :=
 fun w _ => by simp [execOp, ho, hx, hy, eqGuard, binOp, Op.intCmp, Sem.run_pure, Sem.run_bind]
theorem dl (ho : o.op = .binOp .eql t x y ty := by exact rfl) (hx : ev σ x = .int k a := by exact rfl) (hy : ev σ y = .int k b := by exact rfl) : QV P C σ o (.bool (a == b)) :=
 fun w _ => by simp [execOp, ho, hx, hy, eqGuard, binOp, Op.intCmp, Sem.run_pure, Sem.run_bind]
theorem ci (ho : o.op = .binOp .neq t x y ty := by exact rfl) (hx : ev σ x = .int k a := by exact rfl) (hy : ev σ y = .int k b := by exact rfl) : QV P C σ o (.bool (a != b)) :=
 fun w _ => by simp [execOp, ho, hx, hy, eqGuard, binOp, Op.intCmp, Sem.run_pure, Sem.run_bind]
theorem cK (ho : o.op = .binOp .add t x y ty := by exact rfl) (hx : ev σ x = .int k a := by exact rfl) (hy : ev σ y = .int k b := by exact rfl) : QV P C σ o (.int k (wr k (a + b))) :=
 fun w _ => by rw [← jI]; simp [execOp, ho, hx, hy, eqGuard, binOp, Op.intArith, Sem.run_pure, Sem.run_bind]
theorem aK {r : Int} (ho : o.op = .binOp .add t x y ty) (hx : ev σ x = .int k a) (hy : ev σ y = .int k b) (hr : wr k (a + b) = r) : QV P C σ o (.int k r) := by subst hr; exact cK ho hx hy
theorem eI (ho : o.op = .binOp .sub t x y ty := by exact rfl) (hx : ev σ x = .int k a := by exact rfl) (hy : ev σ y = .int k b := by exact rfl) : QV P C σ o (.int k (wr k (a - b))) :=
 fun w _ => by rw [← jI]; simp [execOp, ho, hx, hy, eqGuard, binOp, Op.intArith, Sem.run_pure, Sem.run_bind]
theorem iQ (ho : o.op = .binOp .mul t x y ty := by exact rfl) (hx : ev σ x = .int k a := by exact rfl) (hy : ev σ y = .int k b := by exact rfl) : QV P C σ o (.int k (wr k (a * b))) :=
 fun w _ => by rw [← jI]; simp [execOp, ho, hx, hy, eqGuard, binOp, Op.intArith, Sem.run_pure, Sem.run_bind]
theorem nl (ho : o.op = .binOp .quo t x y ty) (hx : ev σ x = .int k a) (hy : ev σ y = .int k b) (hb : (b != 0) = true) : QV P C σ o (.int k (wr k (a.tdiv b))) :=
 fun w _ => by
  have : b ≠ 0 := by simpa using hb
  rw [← jI]; simp [execOp, ho, hx, hy, eqGuard, binOp, Op.intDiv, this, Sem.run_pure, Sem.run_bind]
theorem sG (ho : o.op = .binOp .rem t x y ty) (hx : ev σ x = .int k a) (hy : ev σ y = .int k b) (hb : (b != 0) = true) : QV P C σ o (.int k (a.tmod b)) :=
 fun w _ => by
  have : b ≠ 0 := by simpa using hb
  simp [execOp, ho, hx, hy, eqGuard, binOp, Op.intDiv, this, Sem.run_pure, Sem.run_bind]
def iand (k : IntKind) (a b : Int) : Int := wr k ((BitVec.ofInt k.bits a &&& BitVec.ofInt k.bits b).toNat : Int)
def ior (k : IntKind) (a b : Int) : Int := wr k ((BitVec.ofInt k.bits a ||| BitVec.ofInt k.bits b).toNat : Int)
def ixor (k : IntKind) (a b : Int) : Int := wr k ((BitVec.ofInt k.bits a ^^^ BitVec.ofInt k.bits b).toNat : Int)
def ishl (k : IntKind) (a b : Int) : Int := wr k (a * 2 ^ min b.toNat k.bits)
def ishr (k : IntKind) (a b : Int) : Int := a / 2 ^ min b.toNat k.bits
theorem u6 (ho : o.op = .binOp .and t x y ty := by exact rfl) (hx : ev σ x = .int k a := by exact rfl) (hy : ev σ y = .int k b := by exact rfl) : QV P C σ o (.int k (iand k a b)) :=
 fun w _ => by unfold iand; rw [← jI]; simp [execOp, ho, hx, hy, eqGuard, binOp, Op.intBits, Sem.run_pure, Sem.run_bind]
theorem q_or (ho : o.op = .binOp .or t x y ty := by exact rfl) (hx : ev σ x = .int k a := by exact rfl) (hy : ev σ y = .int k b := by exact rfl) : QV P C σ o (.int k (ior k a b)) :=
 fun w _ => by unfold ior; rw [← jI]; simp [execOp, ho, hx, hy, eqGuard, binOp, Op.intBits, Sem.run_pure, Sem.run_bind]
theorem ny (ho : o.op = .binOp .xor t x y ty := by exact rfl) (hx : ev σ x = .int k a := by exact rfl) (hy : ev σ y = .int k b := by exact rfl) : QV P C σ o (.int k (ixor k a b)) :=
 fun w _ => by unfold ixor; rw [← jI]; simp [execOp, ho, hx, hy, eqGuard, binOp, Op.intBits, Sem.run_pure, Sem.run_bind]
theorem wN (ho : o.op = .binOp .shl t x y ty) (hx : ev σ x = .int k a) (hy : ev σ y = .int k' b) (hb : decide (0 ≤ b) = true) : QV P C σ o (.int k (ishl k a b)) :=
 fun w _ => by
  have h1 := of_decide_eq_true hb
  have h2 : binOp .shl t (.int k a) (.int k' b) = Op.shift .shl k a k' b := rfl
  have h3 : eqGuard .shl t x y (.int k a) (.int k' b) = pure () := rfl
  unfold ishl; rw [← jI]; simp [execOp, ho, hx, hy, h2, h3, shift_shl_any k k' a b h1, Sem.run_pure, Sem.run_bind]
theorem oE (ho : o.op = .binOp .shr t x y ty) (hx : ev σ x = .int k a) (hy : ev σ y = .int k' b) (hb : decide (0 ≤ b) = true) : QV P C σ o (.int k (ishr k a b)) :=
 fun w _ => by
  have h1 := of_decide_eq_true hb
  have h2 : binOp .shr t (.int k a) (.int k' b) = Op.shift .shr k a k' b := rfl
  have h3 : eqGuard .shr t x y (.int k a) (.int k' b) = pure () := rfl
  unfold ishr; simp [execOp, ho, hx, hy, h2, h3, shift_shr_any k k' a b h1, Sem.run_pure, Sem.run_bind]
theorem yt (ho : o.op = .unOp .neg t x := by exact rfl) (hx : ev σ x = .int k a := by exact rfl) : QV P C σ o (.int k (wr k (0 - a))) :=
 fun w _ => by rw [← jI]; simp [execOp, ho, hx, Op.unary, Op.intArith, Sem.run_pure, Sem.run_bind]
def icom (k : IntKind) (a : Int) : Int := ixor k (if k.signed then -1 else k.max) a
theorem Ar (ho : o.op = .unOp .xor t x) (hx : ev σ x = .int k a) : QV P C σ o (.int k (icom k a)) :=
 fun w _ => by unfold icom ixor; rw [← jI]; simp [execOp, ho, hx, Op.unary, Op.intBits, Sem.run_pure, Sem.run_bind]
theorem cj {s d : TypeId} {ds : TypeDesc} (hd : P.underlying d = some (.int k')) (hs : P.underlying s = some ds) (ho : o.op = .convert s d x := by exact rfl) (hx : ev σ x = .int k a := by exact rfl) : QV P C σ o (.int k' (wr k' a)) :=
 fun w _ => by rw [← jI]; simp [execOp, ho, hx, convert, run_underlying hd, run_underlying hs, Conv.intToInt, Sem.run_pure, Sem.run_bind]
end ints
theorem dJ {x : Operand} {t : TypeId} {g : Bool} (ho : o.op = .unOp .not t x := by exact rfl) (hx : ev σ x = .bool g := by exact rfl) : QV P C σ o (.bool !g) :=
 fun w _ => by simp [execOp, ho, hx, Op.unary, Sem.run_pure, Sem.run_bind]
theorem vB {x : Operand} {i : Nat} {vs : Array Value} {v : Value} (ho : o.op = .extract x i) (hx : ev σ x = .tuple vs) (hv : vs[i]? = some v) : QV P C σ o v :=
 fun w _ => by simp [execOp, ho, hx, Instr.extract, hv, Sem.run_pure, Sem.run_bind]
theorem ai {x : Operand} {t e : TypeId} {A : Option Addr} {n c : Nat} (ho : o.op = .call { callee := .builtin .len, args := #[x], argTypes := #[t] } := by exact rfl) (ht : P.underlying t = some (.slice e)) (hx : ev σ x = .slice A n c := by exact rfl) :
  QV P C σ o (.int .i64 n) :=
 fun w _ => by simp [execOp, ho, hx, resolve, invoke, builtin, Builtin.len_, run_underlying ht, goInt, Sem.run_pure, Sem.run_bind]
theorem aQ {x : Operand} {t : TypeId} {s : ByteArray} (ho : o.op = .call { callee := .builtin .len, args := #[x], argTypes := #[t] } := by exact rfl) (ht : P.underlying t = some .string) (hx : ev σ x = .string s := by exact rfl) :
  QV P C σ o (.int .i64 s.size) :=
 fun w _ => by simp [execOp, ho, hx, resolve, invoke, builtin, Builtin.len_, run_underlying ht, goInt, Sem.run_pure, Sem.run_bind]
theorem jm {t : TypeId} {parts : Array (Nat × Operand)} {v : Value} (ho : o.op = .build t parts) (hr : ∀ w, (Instr.build t (parts.map fun (i, x) => (i, ev σ x))).run P w = .ok v w) : QV P C σ o v :=
 fun w _ => by simp [execOp, ho, hr w, Sem.run_pure, Sem.run_bind]
def eM (A : Option Addr) (j : Nat) : Value := .pointer (A.map fun a => a.add j)
theorem rf (a : Addr) (i j : Nat) : (a.add i).add j = a.add (i + j) := by
 unfold Addr.add
 by_cases hi : i = 0 <;> by_cases hj : j = 0 <;> simp [hi, hj, Nat.add_assoc]
theorem aR (b o i : Nat) : (⟨b, o, none⟩ : Addr).add i = ⟨b, o + i, none⟩ := by unfold Addr.add; split <;> simp_all
theorem lv {x y : Operand} {t e : TypeId} {A : Option Addr} {n c i sz : Nat} {k : IntKind} (ho : o.op = .indexAddr t x y) (ht : P.underlying t = some (.slice e)) (hsz : ∀ w, (sizeOf e).run P w = .ok sz w)
  (hx : ev σ x = .slice A n c) (hy : ev σ y = .int k (i : Int)) (hi : i < n) (hA : A.isSome = true) : QV P C σ o (eM A (i * sz)) :=
 fun w _ => by
  cases A with
  | none => cases hA
  | some a => simp [execOp, ho, hx, hy, Instr.indexAt, asIntOf, run_underlying ht, hsz, eM, hi, Sem.run_pure, Sem.run_bind, Int.toNat_natCast]
def aw (P : Program) (s : TypeId) (f off : Nat) : Prop := ∃ fs fd sz, P.underlying s = some (.struct fs) ∧ fs[f]? = some fd ∧ fd.offset = off ∧ ∀ w, (sizeOf fd.type).run P w = .ok (sz + 1) w
theorem aM {x : Operand} {s : TypeId} {f off : Nat} {A : Option Addr} {j : Nat} (j' : Nat) (hF : aw P s f off) (ho : o.op = .fieldAddr s x f) (hx : ev σ x = eM A j) (hA : A.isSome = true) (hj : j + off = j') : QV P C σ o (eM A j') :=
 fun w _ => by
  obtain ⟨fs, fd, sz, hs, hf, rfl, hz⟩ := hF
  cases A with
  | none => cases hA
  | some a => subst hj; simp [execOp, ho, hx, Instr.fieldAt, run_underlying hs, hf, fieldPlace, hz, eM, Sem.run_pure, Sem.run_bind, rf, Instr.sureAddr]
theorem rT {x : Operand} {s : TypeId} {f off : Nat} {g j : Nat} (j' : Nat) (hF : aw P s f off) (ho : o.op = .fieldAddr s x f) (hx : ev σ x = .pointer (some ⟨g, j, none⟩)) (hj : j + off = j') : QV P C σ o (.pointer (some ⟨g, j', none⟩)) :=
 fun w _ => by
  obtain ⟨fs, fd, sz, hs, hf, rfl, hz⟩ := hF
  subst hj; simp [execOp, ho, hx, Instr.fieldAt, run_underlying hs, hf, fieldPlace, hz, Sem.run_pure, Sem.run_bind, aR, Instr.sureAddr]
section
variable {α : Type} [Inhabited α] {T : Ty α}
theorem tF {x y : Operand} {tys : Array TypeId} {k : IntKind} {a b : Int} (ho : o.op = .call { callee := .builtin .max, args := #[x, y], argTypes := tys } := by exact rfl) (hx : ev σ x = .int k a := by exact rfl) (hy : ev σ y = .int k b := by exact rfl) : QV P C σ o (.int k (max a b)) :=
 fun w _ => by
  have : (if a < b then b else a) = max a b := by omega
  simp [execOp, ho, hx, hy, resolve, invoke, builtin, Builtin.max_, Builtin.max2, this, Sem.run_pure, Sem.run_bind]
theorem Am {x y : Operand} {tys : Array TypeId} {k : IntKind} {a b : Int} (ho : o.op = .call { callee := .builtin .min, args := #[x, y], argTypes := tys } := by exact rfl) (hx : ev σ x = .int k a := by exact rfl) (hy : ev σ y = .int k b := by exact rfl) : QV P C σ o (.int k (min a b)) :=
 fun w _ => by
  have : (if b < a then b else a) = min a b := by omega
  simp [execOp, ho, hx, hy, resolve, invoke, builtin, Builtin.min_, Builtin.min2, this, Sem.run_pure, Sem.run_bind]
theorem qD {x y : Operand} {t ty : TypeId} {a b : ByteArray} (ho : o.op = .binOp .eql t x y ty := by exact rfl) (hx : ev σ x = .string a := by exact rfl) (hy : ev σ y = .string b := by exact rfl) : QV P C σ o (.bool (a == b)) :=
 fun w _ => by simp [execOp, ho, hx, hy, eqGuard, binOp, Op.stringOp, beq_toListBytes, Sem.run_pure, Sem.run_bind]
theorem sU {x y : Operand} {t ty : TypeId} {a b : ByteArray} (ho : o.op = .binOp .neq t x y ty := by exact rfl) (hx : ev σ x = .string a := by exact rfl) (hy : ev σ y = .string b := by exact rfl) : QV P C σ o (.bool (a != b)) :=
 fun w _ => by simp [execOp, ho, hx, hy, eqGuard, binOp, Op.stringOp, bne, beq_toListBytes, Sem.run_pure, Sem.run_bind]
theorem ji {x l : Operand} {t e : TypeId} {A : Option Addr} {c lo sz : Nat} {k : IntKind} {xs : List α} (ht : P.underlying t = some (.slice e)) (hsz : ∀ w, (sizeOf e).run P w = .ok sz w) (ho : o.op = .slice t x (some l) none none)
  (hx : ev σ x = .slice A xs.length c) (hl : ev σ l = .int k (lo : Int)) (h1 : lo ≤ xs.length) : QV P C σ o (.slice (if c = lo then A else A.map (·.add (lo * sz))) (xs.drop lo).length (c - lo)) :=
 fun w _ => by
  simp only [execOp, ho, hx, Instr.sliceAt, Instr.slice, Sem.run_bind, run_underlying ht, Result.andThen_ok, Option.map_some, Option.map_none, hl, List.length_drop]
  have : (0 : Int) ≤ (lo : Int) ∧ (lo : Int) ≤ (xs.length : Int) := ⟨by omega, by omega⟩
  simp [Instr.sliceBounds, Instr.sliceBound, asIntOf, this, hsz, h1, Sem.run_pure, Sem.run_bind]
theorem iA {x h : Operand} {t e : TypeId} {A : Option Addr} {c hi sz : Nat} {k : IntKind} {xs : List α} (ht : P.underlying t = some (.slice e)) (hsz : ∀ w, (sizeOf e).run P w = .ok sz w) (ho : o.op = .slice t x none (some h) none)
  (hx : ev σ x = .slice A xs.length c) (hl : ev σ h = .int k (hi : Int)) (h1 : hi ≤ xs.length) (h2 : xs.length ≤ c) : QV P C σ o (.slice A (xs.take hi).length c) :=
 fun w _ => by
  have e0 : (if c = 0 then A else A.map (·.add 0)) = A := by
   split
   ·rfl
   ·cases A <;> simp [Addr.add]
  have e1 : min hi xs.length = hi := by omega
  have h3 : hi ≤ c := by omega
  simp [execOp, ho, hx, hl, Instr.sliceAt, Instr.slice, Instr.sliceBounds, Instr.sliceBound, asIntOf, hsz, h3, e0, e1, run_underlying ht, Sem.run_pure, Sem.run_bind]
end
theorem nh {σ : Env} {a0 : Operand} {v0 : Value} (h0 : ev σ a0 = v0) : #[a0].map (ev σ) = #[v0] := by subst h0; simp
theorem u7 {σ : Env} {a0 a1 : Operand} {v0 v1 : Value} (h0 : ev σ a0 = v0) (h1 : ev σ a1 = v1) : #[a0, a1].map (ev σ) = #[v0, v1] := by subst h0 h1; simp
theorem mR {σ : Env} {i0 : Nat} {a0 : Operand} {v0 : Value} (h0 : ev σ a0 = v0) : #[(i0, a0)].map (fun (i, x) => (i, ev σ x)) = #[(i0, v0)] := by subst h0; simp
theorem jB {σ : Env} {i0 i1 : Nat} {a0 a1 : Operand} {v0 v1 : Value} (h0 : ev σ a0 = v0) (h1 : ev σ a1 = v1) : #[(i0, a0), (i1, a1)].map (fun (i, x) => (i, ev σ x)) = #[(i0, v0), (i1, v1)] := by subst h0 h1; simp
theorem wT {σ : Env} {i0 i1 i2 : Nat} {a0 a1 a2 : Operand} {v0 v1 v2 : Value} (h0 : ev σ a0 = v0) (h1 : ev σ a1 = v1) (h2 : ev σ a2 = v2) : #[(i0, a0), (i1, a1), (i2, a2)].map (fun (i, x) => (i, ev σ x)) = #[(i0, v0), (i1, v1), (i2, v2)] := by subst h0 h1 h2; simp
theorem ri {σ : Env} {i0 i1 i2 i3 i4 : Nat} {a0 a1 a2 a3 a4 : Operand} {v0 v1 v2 v3 v4 : Value} (h0 : ev σ a0 = v0) (h1 : ev σ a1 = v1) (h2 : ev σ a2 = v2) (h3 : ev σ a3 = v3) (h4 : ev σ a4 = v4) : #[(i0, a0), (i1, a1), (i2, a2), (i3, a3), (i4, a4)].map (fun (i, x) => (i, ev σ x)) = #[(i0, v0), (i1, v1), (i2, v2), (i3, v3), (i4, v4)] := by subst h0 h1 h2 h3 h4; simp
theorem vZ {σ : Env} {i0 i1 i2 i3 i4 i5 : Nat} {a0 a1 a2 a3 a4 a5 : Operand} {v0 v1 v2 v3 v4 v5 : Value} (h0 : ev σ a0 = v0) (h1 : ev σ a1 = v1) (h2 : ev σ a2 = v2) (h3 : ev σ a3 = v3) (h4 : ev σ a4 = v4) (h5 : ev σ a5 = v5) : #[(i0, a0), (i1, a1), (i2, a2), (i3, a3), (i4, a4), (i5, a5)].map (fun (i, x) => (i, ev σ x)) = #[(i0, v0), (i1, v1), (i2, v2), (i3, v3), (i4, v4), (i5, v5)] := by subst h0 h1 h2 h3 h4 h5; simp
theorem yi {σ : Env} {i0 i1 i2 i3 i4 i5 i6 i7 i8 i9 i10 i11 i12 i13 : Nat} {a0 a1 a2 a3 a4 a5 a6 a7 a8 a9 a10 a11 a12 a13 : Operand} {v0 v1 v2 v3 v4 v5 v6 v7 v8 v9 v10 v11 v12 v13 : Value} (h0 : ev σ a0 = v0) (h1 : ev σ a1 = v1) (h2 : ev σ a2 = v2) (h3 : ev σ a3 = v3) (h4 : ev σ a4 = v4) (h5 : ev σ a5 = v5) (h6 : ev σ a6 = v6) (h7 : ev σ a7 = v7) (h8 : ev σ a8 = v8) (h9 : ev σ a9 = v9) (h10 : ev σ a10 = v10) (h11 : ev σ a11 = v11) (h12 : ev σ a12 = v12) (h13 : ev σ a13 = v13) : #[(i0, a0), (i1, a1), (i2, a2), (i3, a3), (i4, a4), (i5, a5), (i6, a6), (i7, a7), (i8, a8), (i9, a9), (i10, a10), (i11, a11), (i12, a12), (i13, a13)].map (fun (i, x) => (i, ev σ x)) = #[(i0, v0), (i1, v1), (i2, v2), (i3, v3), (i4, v4), (i5, v5), (i6, v6), (i7, v7), (i8, v8), (i9, v9), (i10, v10), (i11, v11), (i12, v12), (i13, v13)] := by subst h0 h1 h2 h3 h4 h5 h6 h7 h8 h9 h10 h11 h12 h13; simp
theorem bh {t : TypeId} {parts : Array (Nat × Operand)} {ps : Array (Nat × Value)} {v : Value} (ho : o.op = .build t parts) (hp : parts.map (fun (i, x) => (i, ev σ x)) = ps) (hr : ∀ w, (Instr.build t ps).run P w = .ok v w) : QV P C σ o v :=
 jm ho (by rw [hp]; exact hr)
theorem ig {x y : Operand} {t ty e : TypeId} {A : Option Addr} {n c m q : Nat} (ht : P.underlying t = some (.slice e)) (ho : o.op = .binOp .eql t x y ty) (hx : ev σ x = .slice A n c) (hy : ev σ y = .slice none m q) : QV P C σ o (.bool A.isNone) :=
 fun w _ => by
  have h1 : eqGuard .eql t x y (.slice A n c) (.slice none m q) = pure () := rfl
  have h2 : binOp .eql t (.slice A n c) (.slice none m q) = (Op.equal t (.slice A n c) (.slice none m q) >>= fun r => pure (.bool r)) := rfl
  have h4 : ∀ d, (Op.equalIn (d + 1) t (.slice A n c) (.slice none m q)).run P w = .ok A.isNone w := by
   intro d
   simp only [Op.equalIn, Sem.run_bind, run_underlying ht, Result.andThen_ok]
   cases A <;> rfl
  have h3 : (Op.equal t (.slice A n c) (.slice none m q)).run P w = .ok A.isNone w := h4 9999
  simp only [execOp, ho, hx, hy, h1, h2, Sem.run_bind, Sem.run_pure, Result.andThen_ok, h3]
theorem gy {x y : Operand} {t ty e : TypeId} {a : Option Addr} (ht : P.underlying t = some (.pointer e)) (ho : o.op = .binOp .eql t x y ty) (hx : ev σ x = .pointer a) (hy : ev σ y = .pointer none) : QV P C σ o (.bool a.isNone) :=
 fun w _ => by
  have h1 : eqGuard .eql t x y (.pointer a) (.pointer none) = pure () := rfl
  have h2 : binOp .eql t (.pointer a) (.pointer none) = (Op.equal t (.pointer a) (.pointer none) >>= fun r => pure (.bool r)) := rfl
  have h4 : ∀ d, (Op.equalIn (d + 1) t (.pointer a) (.pointer none)).run P w = .ok a.isNone w := by
   intro d
   simp only [Op.equalIn, Sem.run_bind, run_underlying ht, Result.andThen_ok]
   cases a <;> rfl
  have h3 : (Op.equal t (.pointer a) (.pointer none)).run P w = .ok a.isNone w := h4 9999
  simp only [execOp, ho, hx, hy, h1, h2, Sem.run_bind, Sem.run_pure, Result.andThen_ok, h3]
theorem uG {x y : Operand} {t ty e : TypeId} {a : Option Addr} (ht : P.underlying t = some (.pointer e)) (ho : o.op = .binOp .neq t x y ty) (hx : ev σ x = .pointer a) (hy : ev σ y = .pointer none) : QV P C σ o (.bool (!a.isNone)) :=
 fun w _ => by
  have h1 : eqGuard .neq t x y (.pointer a) (.pointer none) = pure () := rfl
  have h2 : binOp .neq t (.pointer a) (.pointer none) = (Op.equal t (.pointer a) (.pointer none) >>= fun r => pure (.bool !r)) := rfl
  have h4 : ∀ d, (Op.equalIn (d + 1) t (.pointer a) (.pointer none)).run P w = .ok a.isNone w := by
   intro d
   simp only [Op.equalIn, Sem.run_bind, run_underlying ht, Result.andThen_ok]
   cases a <;> rfl
  have h3 : (Op.equal t (.pointer a) (.pointer none)).run P w = .ok a.isNone w := h4 9999
  simp only [execOp, ho, hx, hy, h1, h2, Sem.run_bind, Sem.run_pure, Result.andThen_ok, h3]
end
end Fw
end Go.Proofs.YtogmioecalmalaaGreat
