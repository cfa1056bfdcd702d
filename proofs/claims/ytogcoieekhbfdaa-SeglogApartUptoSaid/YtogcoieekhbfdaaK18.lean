/- Strings in order and joined; bytes of a literal; small numbers. No condition. -/
import Derived.Test.YtogcoieekhbfdaaK14
import Derived.Test.YtogcoieekhbfdaaK11
import Derived.Sort.Walk0
import Derived.Laws.Strings
import Derived.Laws.Cover1
namespace Go.Proofs.Ytogcoieekhbfdaa
namespace Fw
set_option linter.unusedVariables false
set_option linter.unusedSimpArgs false
set_option linter.unusedSectionVars false
open Go.RowKit

section
variable {P : Program} {C : World → Prop} {σ : Env} {o : Oper} {x y : Operand} {t ty : TypeId} {a b : ByteArray}
theorem q_sadd (ho : o.op = .binOp .add t x y ty) (hx : ev σ x = .string a) (hy : ev σ y = .string b) (ha : a.size ≤ lim) (hb : b.size ≤ lim) : QV P C σ o (.string (a ++ b)) :=
  fun w _ => by
    have h1 : lim = 2147483648 := lim_eq
    have h : ((a.size + b.size : Nat) : Int) ≤ 9223372036854775807 := by omega
    have h2 : IntKind.i64.max = 9223372036854775807 := by decide
    simp only [execOp, ho, hx, hy, eqGuard, binOp, Op.stringOp, h2, Int.not_lt.2 h, if_false, Sem.run_pure, Sem.run_bind, gt_iff_lt, Bool.not_false, if_true, Result.andThen_ok, bne_self_eq_false]
    try rfl
end

/-! ### numbers of two and four bytes -/
@[reducible] def U16 (x : Int) : Prop := 0 ≤ x ∧ x ≤ 65535
theorem and_nf {a b : Bool} (h : (a && b) = false) (ha : a = true) : b = false := by subst ha; simpa using h
/-! ### the bytes of a literal -/
section
variable {P : Program} {N : FN} {F : Fm} {Γ : Gh} {L : List Rowb} {σ : Env} {o : Oper} {Q : Exit → Env → World → Prop} {rest : List Oper} {ops : Array Oper}
theorem freeze_lit {w : World} {g : Nat} {cs : Array Value} {e : TypeId} (hb : w.heap[g]? = some (.cells cs e (0, 0))) (k : Nat) : w.freeze ⟨g, k, none⟩ 1 = { w with heap := w.heap.setIfInBounds g (.cells cs e (k, k + 1)) } := by
  unfold World.freeze
  rw [if_neg (by decide)]
  have hlt := heap_lt hb
  have hg : w.heap[g] = .cells cs e (0, 0) := by
    rw [Array.getElem?_eq_getElem hlt] at hb; injection hb
  congr 1
  apply Array.ext
  · simp
  · intro i h1 h2
    rw [Array.getElem_modify, Array.getElem_setIfInBounds (by simpa using h2)]
    by_cases h : g = i
    · subst h; simp [hg]
    · simp [h]
theorem e_convlit {t e : TypeId} {x : Operand} {d i g n : Nat} {cs : Array Value} {ys : List UInt8} (ht : P.underlying t = some (.slice e)) (he : P.underlying e = some (.int .u8)) (hi : L[i]? = some [(g, .cells cs e (0, 0))]) (hcs : cs.toList = ys.map fun b => .int .u8 ((b.toNat : Nat) : Int)) (hn : ys.length = n) (hle : n ≤ lim)
    (hg : o.guard = none) (hdst : o.dst = some d) (hd : okDst N (some d) = true) (ho : o.op = .convert t t x) (hx : ev σ x = .slice (some ⟨g, 0, none⟩) n n)
    (k : ∀ Δ, Γ.le Δ → Sl byteT Δ (some ⟨g, 0, none⟩) ys → WR P N ops (CC F Δ (L.set i [])) Q rest (upd σ d (.slice (some ⟨g, 0, none⟩) n n))) : WR P N ops (CC F Γ L) Q (o :: rest) σ := by
  refine WR.eff hg (by rw [hdst]; exact hd) fun w hw => ?_
  have hb := hw.at_ hi (p := (g, .cells cs e (0, 0))) (by simp)
  have hsh : w.shape? g = some (e, cs.size) := by
    unfold World.shape?; rw [hb]
  refine ⟨.slice (some ⟨g, 0, none⟩) n n, { w with heap := w.heap.setIfInBounds g (.cells cs e (cs.size, cs.size + 1)) }, .inl ?_, ?_⟩
  · have hc : (convert t t (.slice (some ⟨g, 0, none⟩) n n)).run P w = .ok (.slice (some ⟨g, 0, none⟩) n n) (w.freeze ⟨g, cs.size, none⟩ 1) := by
      simp [convert, run_underlying ht, run_underlying he, markStringish, hsh]
    simp only [execOp, ho, hx, Sem.run_bind, hc, Result.andThen_ok, Sem.run_pure, freeze_lit hb]
  · rw [hdst]
    have hcur : Cur F Γ (L.set i [(g, .cells cs e (cs.size, cs.size + 1))]) { w with heap := w.heap.setIfInBounds g (.cells cs e (cs.size, cs.size + 1)) } := by
      refine hw.set hi ⟨rfl, rfl, rfl, fun _ => Nat.le_refl _, by simp, fun k hk hne => ?_⟩ (fun p hp => ?_) (fun p hp => .inl ⟨(g, .cells cs e (0, 0)), by simp, by rw [List.mem_singleton.1 hp]⟩) (by simp)
      · show (w.heap.setIfInBounds g _)[k]? = _
        rw [Array.getElem?_setIfInBounds, if_neg fun h => hne ⟨(g, .cells cs e (0, 0)), by simp, h⟩]
      · rw [List.mem_singleton.1 hp]
        show (w.heap.setIfInBounds g _)[g]? = _
        rw [Array.getElem?_setIfInBounds, if_pos rfl, if_pos (heap_lt hb)]
    have hil : i < L.length := (List.getElem?_eq_some_iff.1 hi).1
    obtain ⟨Δ, hw3, hle2, hr⟩ := hcur.seal (i := i) (by rw [List.getElem?_set_self hil])
    rw [List.set_set] at hw3
    refine k Δ hle2 ⟨by rw [hn]; exact hle, fun q hq => ⟨[.int .u8 (((gt ys q).toNat : Nat) : Int)], rfl, fun j v hj => ?_⟩⟩ _ hw3
    have hj0 : j = 0 := by
      rcases Nat.eq_zero_or_pos j with h | h
      · exact h
      · rw [List.getElem?_eq_none (by simp; omega)] at hj; cases hj
    subst hj0
    simp only [List.getElem?_cons_zero, Option.some.injEq] at hj
    subst hj
    refine ⟨g, 0, cs, e, _, rfl, hr _ (List.mem_singleton.2 rfl), ?_⟩
    simp only [byteT, Nat.mul_one, Nat.add_zero, Nat.zero_add]
    rw [← Array.getElem?_toList, hcs, List.getElem?_map, List.getElem?_eq_getElem hq, gt_eq hq]; rfl
end
end Fw
end Go.Proofs.Ytogcoieekhbfdaa
