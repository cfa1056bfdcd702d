/- Strings in order and joined; bytes of a literal; small numbers. No condition. -/
import Derived.Test.YtlgahohnbkkoiaaK14
import Derived.Test.YtlgahohnbkkoiaaK11
import Derived.Sort.Walk0
import Derived.Laws.Strings
import Derived.Laws.Cover1
namespace Go.Proofs.Ytlgahohnbkkoiaa
namespace Fw
set_option linter.unusedVariables false
set_option linter.unusedSimpArgs false
set_option linter.unusedSectionVars false
open Go.RowKit

/-- is a string ahead of another one? -/
def strLt (a b : ByteArray) : Bool := decide (a.data.toList < b.data.toList)
def strLe (a b : ByteArray) : Bool := !decide (b.data.toList < a.data.toList)
theorem bl_lt (a b : ByteArray) : Op.bytesLess a.toList b.toList = strLt a b := by
  rw [bytesLess_eq]; unfold strLt
  rw [Lib.toList_data, Lib.toList_data]
section
variable {P : Program} {C : World → Prop} {σ : Env} {o : Oper} {x y : Operand} {t ty : TypeId} {a b : ByteArray}
theorem q_slss (ho : o.op = .binOp .lss t x y ty) (hx : ev σ x = .string a) (hy : ev σ y = .string b) : QV P C σ o (.bool (strLt a b)) :=
  fun w _ => by simp [execOp, ho, hx, hy, eqGuard, binOp, Op.stringOp, bl_lt, Sem.run_pure, Sem.run_bind]
theorem q_sgeq (ho : o.op = .binOp .geq t x y ty) (hx : ev σ x = .string a) (hy : ev σ y = .string b) : QV P C σ o (.bool (!strLt a b)) :=
  fun w _ => by simp [execOp, ho, hx, hy, eqGuard, binOp, Op.stringOp, bl_lt, Sem.run_pure, Sem.run_bind]
theorem q_sleq (ho : o.op = .binOp .leq t x y ty) (hx : ev σ x = .string a) (hy : ev σ y = .string b) : QV P C σ o (.bool (strLt a b || a == b)) :=
  fun w _ => by simp [execOp, ho, hx, hy, eqGuard, binOp, Op.stringOp, bl_lt, beq_toListBytes, Sem.run_pure, Sem.run_bind]
theorem q_sgtr (ho : o.op = .binOp .gtr t x y ty) (hx : ev σ x = .string a) (hy : ev σ y = .string b) : QV P C σ o (.bool (!(strLt a b || a == b))) :=
  fun w _ => by simp [execOp, ho, hx, hy, eqGuard, binOp, Op.stringOp, bl_lt, beq_toListBytes, Sem.run_pure, Sem.run_bind]
theorem q_sadd (ho : o.op = .binOp .add t x y ty) (hx : ev σ x = .string a) (hy : ev σ y = .string b) (ha : a.size ≤ lim) (hb : b.size ≤ lim) : QV P C σ o (.string (a ++ b)) :=
  fun w _ => by
    have h1 : lim = 2147483648 := lim_eq
    have h : ((a.size + b.size : Nat) : Int) ≤ 9223372036854775807 := by omega
    have h2 : IntKind.i64.max = 9223372036854775807 := by decide
    simp only [execOp, ho, hx, hy, eqGuard, binOp, Op.stringOp, h2, Int.not_lt.2 h, if_false, Sem.run_pure, Sem.run_bind, gt_iff_lt, Bool.not_false, if_true, Result.andThen_ok, bne_self_eq_false]
    try rfl
end

/-! ### numbers of two and four bytes -/
@[reducible] def U16 (x : Int) : Prop := 0 ≤ x ∧ x ≤ 65535
def u16T : Ty Int where
  n := 1
  pos := by decide
  rd := fun _ cs x => cs = [.int .u16 x] ∧ U16 x
  len := by rintro Γ cs x ⟨rfl, h⟩; rfl
  one := by rintro Γ cs x ⟨rfl, h⟩ u hu; rw [List.mem_singleton.1 hu]; rfl
  mono := by rintro Γ Δ cs x ⟨rfl, h⟩ hs; exact ⟨rfl, h⟩
theorem opens_u16 {P : Program} {t : TypeId} (ht : P.underlying t = some (.int .u16)) : Opens P t u16T bkOne := by
  intro H enc w base spare held fuel cs x h _ _
  obtain ⟨n, rfl, _, hw⟩ := DataW.trod_int ht h
  exact ⟨n, ⟨rfl, by simpa [Lit.wf, IntKind.min, IntKind.max, IntKind.signed, IntKind.bits, U16] using hw⟩, bulk_pos _⟩

/-! ### arrays of numbers, handed in -/
theorem okWide_arr {P : Program} {w : World} {r : Reach} {base : Nat} {t n e : Nat} {v : Value} (ht : P.underlying t = some (.array n e)) (h : Value.okWide P w r base t v) : ∃ cs, v = .agg cs := by
  simp only [Value.okWide, ht] at h
  obtain ⟨cs, h1, _⟩ := h
  exact ⟨cs, h1⟩
theorem opens_arr_i64 {P : Program} {t n e : Nat} (ht : P.underlying t = some (.array n e)) (he : P.underlying e = some (.int .i64)) (hc : P.cellsOf e = 1) (hn : P.cellsOf t = n) {H : Type} {enc : TypeId × Value → H} {w : World} {base : Nat} {spare : Nat → Bool} {held : Bool} {fuel : Nat} {cs : List Value} {x : DataW H × List MemPlace}
    (h : DataW.trod enc P w base spare held fuel t cs = some x) : ∃ ys : List Int, ys.length = n ∧ cs = ys.map (fun y => .int .i64 y) ∧ ∀ y ∈ ys, I64 y := by
  obtain ⟨xs, m, _, _, hl, hxl, hf⟩ := DataW.trod_array ht h
  rw [hn] at hl
  have key : ∀ k, k ≤ n → ∃ ys : List Int, ys.length = k ∧ cs.take k = ys.map (fun y => .int .i64 y) ∧ ∀ y ∈ ys, I64 y := by
    intro k
    induction k with
    | zero => intro _; exact ⟨[], rfl, rfl, fun y hy => by cases hy⟩
    | succ k ih =>
      intro hk
      obtain ⟨ys, h1, h2, h3⟩ := ih (by omega)
      have h4 := hf k (by omega)
      rw [hc, Nat.mul_one, List.getElem?_eq_getElem (show k < xs.length by omega)] at h4
      obtain ⟨y, h5, _, h6⟩ := DataW.trod_int he h4
      refine ⟨ys ++ [y], by simp [h1], ?_, fun z hz => ?_⟩
      · rw [List.map_append, ← h2, List.map_cons, List.map_nil, ← h5, List.take_add]
      · rcases List.mem_append.1 hz with hz | hz
        · exact h3 z hz
        · rw [List.mem_singleton.1 hz]; simpa [Lit.wf, IntKind.min, IntKind.max, IntKind.signed, IntKind.bits, I64] using h6
  obtain ⟨ys, h1, h2, h3⟩ := key n (Nat.le_refl _)
  exact ⟨ys, h1, by rw [← h2, List.take_of_length_le (by omega)], h3⟩
theorem and_nt {a b : Bool} (h : (a && !b) = false) (ha : a = true) : b = true := by subst ha; cases b <;> simp_all
theorem and_nf {a b : Bool} (h : (a && b) = false) (ha : a = true) : b = false := by subst ha; simpa using h
theorem or_tr {a b : Bool} (h : (a || b) = true) (ha : a = false) : b = true := by subst ha; simpa using h
/-- a cell of an object that is folded -/
theorem q_ldr {P : Program} {F : Fm} {Γ : Gh} {L : List Rowb} {σ : Env} {o : Oper} {x : Operand} {t e : TypeId} {i g j : Nat} {row : Rowb} {cs : Array Value} {v : Value} (hi : L[i]? = some row) (hm : (g, .cells cs e (0, 0)) ∈ row) (ho : o.op = .load t x) (ht : ∀ w, (isAgg t).run P w = .ok false w) (hx : ev σ x = .pointer (some ⟨g, j, none⟩)) (hv : cs[j]? = some v) :
    QV P (CC F Γ L) σ o v :=
  fun w hw => by
    simp only [execOp, ho, hx, Sem.run_bind]
    rw [run_loadAt_cell ht ((cell_of_row w g j cs e (0, 0) (hw.at_ hi hm)).trans hv)]; rfl

/-! ### the bytes of a literal -/
section
variable {P : Program} {N : FN} {F : Fm} {Γ : Gh} {L : List Rowb} {σ : Env} {o : Oper} {Q : Exit → Env → World → Prop} {rest : List Oper} {ops : Array Oper}
theorem freeze_lit {w : World} {g : Nat} {cs : Array Value} {e : TypeId} (hb : w.heap[g]? = some (.cells cs e (0, 0))) (k : Nat) : w.freeze ⟨g, k, none⟩ 1 = { w with heap := w.heap.setIfInBounds g (.cells cs e (k, k + 1)) } := by
  unfold World.freeze
  rw [if_neg (by decide)]
  have hlt := heap_lt hb
  have hg : w.heap[g] = .cells cs e (0, 0) := by
    rw [Array.getElem?_eq_getElem hlt] at hb; injection hb
  congr 1
  apply Array.ext
  · simp
  · intro i h1 h2
    rw [Array.getElem_modify, Array.getElem_setIfInBounds (by simpa using h2)]
    by_cases h : g = i
    · subst h; simp [hg]
    · simp [h]
theorem e_convlit {t e : TypeId} {x : Operand} {d i g n : Nat} {cs : Array Value} {ys : List UInt8} (ht : P.underlying t = some (.slice e)) (he : P.underlying e = some (.int .u8)) (hi : L[i]? = some [(g, .cells cs e (0, 0))]) (hcs : cs.toList = ys.map fun b => .int .u8 ((b.toNat : Nat) : Int)) (hn : ys.length = n) (hle : n ≤ lim)
    (hg : o.guard = none) (hdst : o.dst = some d) (hd : okDst N (some d) = true) (ho : o.op = .convert t t x) (hx : ev σ x = .slice (some ⟨g, 0, none⟩) n n)
    (k : ∀ Δ, Γ.le Δ → Sl byteT Δ (some ⟨g, 0, none⟩) ys → WR P N ops (CC F Δ (L.set i [])) Q rest (upd σ d (.slice (some ⟨g, 0, none⟩) n n))) : WR P N ops (CC F Γ L) Q (o :: rest) σ := by
  refine WR.eff hg (by rw [hdst]; exact hd) fun w hw => ?_
  have hb := hw.at_ hi (p := (g, .cells cs e (0, 0))) (by simp)
  have hsh : w.shape? g = some (e, cs.size) := by
    unfold World.shape?; rw [hb]
  refine ⟨.slice (some ⟨g, 0, none⟩) n n, { w with heap := w.heap.setIfInBounds g (.cells cs e (cs.size, cs.size + 1)) }, .inl ?_, ?_⟩
  · have hc : (convert t t (.slice (some ⟨g, 0, none⟩) n n)).run P w = .ok (.slice (some ⟨g, 0, none⟩) n n) (w.freeze ⟨g, cs.size, none⟩ 1) := by
      simp [convert, run_underlying ht, run_underlying he, markStringish, hsh]
    simp only [execOp, ho, hx, Sem.run_bind, hc, Result.andThen_ok, Sem.run_pure, freeze_lit hb]
  · rw [hdst]
    have hcur : Cur F Γ (L.set i [(g, .cells cs e (cs.size, cs.size + 1))]) { w with heap := w.heap.setIfInBounds g (.cells cs e (cs.size, cs.size + 1)) } := by
      refine hw.set hi ⟨rfl, rfl, rfl, fun _ => Nat.le_refl _, by simp, fun k hk hne => ?_⟩ (fun p hp => ?_) (fun p hp => .inl ⟨(g, .cells cs e (0, 0)), by simp, by rw [List.mem_singleton.1 hp]⟩) (by simp)
      · show (w.heap.setIfInBounds g _)[k]? = _
        rw [Array.getElem?_setIfInBounds, if_neg fun h => hne ⟨(g, .cells cs e (0, 0)), by simp, h⟩]
      · rw [List.mem_singleton.1 hp]
        show (w.heap.setIfInBounds g _)[g]? = _
        rw [Array.getElem?_setIfInBounds, if_pos rfl, if_pos (heap_lt hb)]
    have hil : i < L.length := (List.getElem?_eq_some_iff.1 hi).1
    obtain ⟨Δ, hw3, hle2, hr⟩ := hcur.seal (i := i) (by rw [List.getElem?_set_self hil])
    rw [List.set_set] at hw3
    refine k Δ hle2 ⟨by rw [hn]; exact hle, fun q hq => ⟨[.int .u8 (((gt ys q).toNat : Nat) : Int)], rfl, fun j v hj => ?_⟩⟩ _ hw3
    have hj0 : j = 0 := by
      rcases Nat.eq_zero_or_pos j with h | h
      · exact h
      · rw [List.getElem?_eq_none (by simp; omega)] at hj; cases hj
    subst hj0
    simp only [List.getElem?_cons_zero, Option.some.injEq] at hj
    subst hj
    refine ⟨g, 0, cs, e, _, rfl, hr _ (List.mem_singleton.2 rfl), ?_, fun hz => ?_⟩
    rotate_left
    · have h5 := hz.1
      have h6 : cs.size = ys.length := by rw [← Array.length_toList, hcs, List.length_map]
      simp only [byteT, Nat.mul_one, Nat.add_zero, Nat.zero_add] at h5
      omega
    simp only [byteT, Nat.mul_one, Nat.add_zero, Nat.zero_add]
    rw [← Array.getElem?_toList, hcs, List.getElem?_map, List.getElem?_eq_getElem hq, gt_eq hq]; rfl
end
end Fw
end Go.Proofs.Ytlgahohnbkkoiaa
