/- What a session has seen ahead of an act: steps, and what is behind them. No condition. -/
import Derived.Test.YtldpanjodokefaaP1
namespace Go.Proofs.Ytldpanjodokefaa
namespace Fw
set_option linter.unusedVariables false
set_option linter.unusedSimpArgs false
set_option linter.unusedSectionVars false
open Go.RowKit
abbrev Acts := List Djudge_Act
/-- what an act lays before its session -/
def tells (a : Djudge_Act) : List Dot := bif a.read then a.reads else bif decide (0 < a.dot.n) then [a.dot] else []
def stp (l : Acts) (i : Nat) : List Dot := (l.take i).flatMap fun a => bif (a.sess == (gt l i).sess) && a.oK then tells a else []
def bhd (t : Ojudge_trial) (e : Dot) : DS := (mget e t.behind).getD []
def putS (t : Ojudge_trial) (s : DS) (e : Dot) : DS := un (sput kl e s) (bhd t e)
def sawS (t : Ojudge_trial) (i : Nat) : DS := (stp t.list i).foldl (putS t) []
theorem putS_cs {t : Ojudge_trial} {s : DS} {e : Dot} (h : CS s) : CS (putS t s e) := un_cs (sput_cs h)
theorem mem_putS {t : Ojudge_trial} {s : DS} {e y : Dot} : y ∈ kys (putS t s e) ↔ y ∈ kys s ∨ y = e ∨ y ∈ kys (bhd t e) := by
  unfold putS; rw [mem_un, mem_sput]
  constructor
  · rintro ((h | h) | h)
    · exact .inr (.inl h)
    · exact .inl h
    · exact .inr (.inr h)
  · rintro (h | h | h)
    · exact .inl (.inr h)
    · exact .inl (.inl h)
    · exact .inr h
theorem foldp_cs {t : Ojudge_trial} : ∀ {l : List Dot} {s : DS}, CS s → CS (l.foldl (putS t) s)
  | [], _, h => h
  | x :: l, s, h => foldp_cs (l := l) (putS_cs h)
theorem mem_foldp {t : Ojudge_trial} {y : Dot} : ∀ {l : List Dot} {s : DS}, y ∈ kys (l.foldl (putS t) s) ↔ y ∈ kys s ∨ ∃ e ∈ l, y = e ∨ y ∈ kys (bhd t e)
  | [], s => by simp
  | x :: l, s => by
    rw [List.foldl_cons, mem_foldp, mem_putS]
    constructor
    · rintro ((h | h) | ⟨e, h1, h2⟩)
      · exact .inl h
      · exact .inr ⟨x, List.mem_cons_self, h⟩
      · exact .inr ⟨e, List.mem_cons_of_mem _ h1, h2⟩
    · rintro (h | ⟨e, h1, h2⟩)
      · exact .inl (.inl h)
      · rcases List.mem_cons.1 h1 with q | q
        · rw [q] at h2; exact .inl (.inr h2)
        · exact .inr ⟨e, q, h2⟩
theorem sawS_cs (t : Ojudge_trial) (i : Nat) : CS (sawS t i) := foldp_cs cs_nil
theorem mem_sawS {t : Ojudge_trial} {i : Nat} {y : Dot} : y ∈ kys (sawS t i) ↔ ∃ e ∈ stp t.list i, y = e ∨ y ∈ kys (bhd t e) := by
  unfold sawS; rw [mem_foldp]; simp [kys]
theorem mem_stp {l : Acts} {i : Nat} {y : Dot} : y ∈ stp l i ↔ ∃ j, j < i ∧ j < l.length ∧ (gt l j).sess = (gt l i).sess ∧ (gt l j).oK = true ∧ y ∈ tells (gt l j) := by
  unfold stp
  rw [List.mem_flatMap]
  constructor
  · rintro ⟨a, ha, hy⟩
    obtain ⟨j, hj, he⟩ := List.mem_take_iff_getElem.1 ha
    have hjl : j < l.length := by omega
    refine ⟨j, by omega, hjl, ?_⟩
    have hg : gt l j = a := by rw [gt_eq hjl]; exact he
    rw [hg]
    cases hc : (a.sess == (gt l i).sess) && a.oK with
    | false => rw [hc] at hy; simp at hy
    | true =>
      rw [hc] at hy
      exact ⟨by simpa using and_l hc, and_r hc, hy⟩
  · rintro ⟨j, h1, h2, h3, h4, h5⟩
    refine ⟨gt l j, List.mem_take_iff_getElem.2 ⟨j, by omega, (gt_eq h2).symm⟩, ?_⟩
    rw [h3, h4]; simpa using h5
theorem mem_tells {a : Djudge_Act} {y : Dot} : y ∈ tells a ↔ (a.read = true ∧ y ∈ a.reads) ∨ (a.read = false ∧ 0 < a.dot.n ∧ y = a.dot) := by
  unfold tells
  cases a.read with
  | true => simp
  | false =>
    by_cases h : 0 < a.dot.n
    · simp [h]
    · simp [h]
/-- lists that fit -/
def fine (l : Acts) : Prop := l.length ≤ lim ∧ ∀ a ∈ l, a.reads.length ≤ lim
theorem fine.at_ {l : Acts} (h : fine l) (i : Nat) : (gt l i).reads.length ≤ lim := by
  by_cases hi : i < l.length
  · rw [gt_eq hi]; exact h.2 _ (List.getElem_mem hi)
  · have : gt l i = default := by simp [gt, List.getD, List.getElem?_eq_none (show l.length ≤ i by omega)]
    rw [this]; decide
section
variable {t : Ojudge_trial} {i : Nat}
theorem e_rdloop {f15 : DS → Option DS} {i16 : Nat} (hr : (gt (List.take i t.list) i16).read = true) (hl : (gt (List.take i t.list) i16).reads.length ≤ lim) : ∀ (m k n : Nat) (s : DS), k + m = (gt (List.take i t.list) i16).reads.length → m < n → CS s →
    loopN (m_judge_trial_saw_l1_b21 t (i : Int) f15 i16) n ((k : Int), s) = f15 (((gt (List.take i t.list) i16).reads.drop k).foldl (putS t) s)
  | m, k, 0, s, _, hn, _ => absurd hn (by omega)
  | 0, k, n + 1, s, hk, _, _ => by
    rw [loopN_s]
    unfold m_judge_trial_saw_l1_b21
    have : decide ((k : Int) < ((((gt (List.take (i : Int).toNat t.list) i16).reads).length : Nat) : Int)) = false := by simp only [Int.toNat_natCast, decide_eq_false_iff_not]; omega
    simp only [this, Bool.and_false, cond_false]
    rw [List.drop_of_length_le (by omega)]; rfl
  | m + 1, k, n + 1, s, hk, hn, hs => by
    rw [loopN_s]
    generalize hF : loopN (m_judge_trial_saw_l1_b21 t (i : Int) f15 i16) n = G
    unfold m_judge_trial_saw_l1_b21
    have hkl : k < (gt (List.take i t.list) i16).reads.length := by omega
    have e1 : decide ((k : Int) < ((((gt (List.take (i : Int).toNat t.list) i16).reads).length : Nat) : Int)) = true := by simp only [Int.toNat_natCast, decide_eq_true_eq]; omega
    have e2 : inb (k : Int) ((gt (List.take (i : Int).toNat t.list) i16).reads).length = true := by simp only [Int.toNat_natCast, inb, Bool.and_eq_true, decide_eq_true_eq]; omega
    have hw : w64 ((k : Int) + 1) = ((k + 1 : Nat) : Int) := by rw [lim_eq] at hl; rw [w64_id (by omega) (by omega)]; omega
    simp only [Int.toNat_natCast] at e1 e2 ⊢
    rw [hr, e1, e2]
    simp only [Bool.and_self, cond_true, chk, e_put hs, Option.bind_some, hw]
    rw [← hF, e_rdloop hr hl m (k + 1) n _ (by omega) (by omega) (un_cs (sput_cs hs)), drop_gt hkl]; rfl
theorem e_sawstep {f15 : DS → Option DS} {i16 : Nat} {a : Djudge_Act} (hi : i < t.list.length) (ha : a = gt (List.take i t.list) i16) (hl : a.reads.length ≤ lim) {s : DS} (hs : CS s) :
    m_judge_trial_saw_l1_b16 t (i : Int) f15 i16 a s = f15 ((bif (a.sess == (gt t.list i).sess) && a.oK then tells a else []).foldl (putS t) s) := by
  unfold m_judge_trial_saw_l1_b16
  have e0 : inb (i : Int) t.list.length = true := by simp only [inb, Bool.and_eq_true, decide_eq_true_eq]; omega
  rw [e0]
  simp only [chk, cond_true, Int.toNat_natCast]
  have hFU : FU = 18446744073709551615 + 1 := rfl
  have j20 : ∀ s : DS, CS s → m_judge_trial_saw_l1_j20 t (i : Int) f15 i16 s = f15 ((bif a.read then a.reads else []).foldl (putS t) s) := by
    intro s hs
    unfold m_judge_trial_saw_l1_j20
    cases hr : a.read with
    | true =>
      rw [ha] at hr hl
      have := e_rdloop (f15 := f15) hr hl (gt (List.take i t.list) i16).reads.length 0 FU s (by omega) (by rw [lim_eq] at hl; unfold FU; omega) hs
      rw [show ((0 : Nat) : Int) = 0 from rfl] at this
      rw [this, ha]; rfl
    | false =>
      rw [hFU, loopN_s]
      unfold m_judge_trial_saw_l1_b21
      rw [ha] at hr
      simp only [Int.toNat_natCast, hr, Bool.false_and, cond_false]
      rfl
  cases hc : (a.sess == (gt t.list i).sess) && a.oK with
  | false =>
    have : ((a.sess != (gt t.list i).sess) || !a.oK) = true := by
      rw [bne, ← Bool.not_and, hc]; rfl
    rw [this]; rfl
  | true =>
    have : ((a.sess != (gt t.list i).sess) || !a.oK) = false := by
      rw [bne, ← Bool.not_and, hc]; rfl
    rw [this]
    simp only [cond_false, cond_true]
    cases hr : a.read with
    | true =>
      simp only [Bool.not_true, Bool.false_and, cond_false]
      rw [j20 s hs, hr]
      simp [tells, hr]
    | false =>
      by_cases hn : 0 < a.dot.n
      · simp only [Bool.not_false, hn, decide_true, Bool.and_self, cond_true]
        rw [e_put hs]
        simp only [Option.bind_some]
        rw [j20 _ (un_cs (sput_cs hs)), hr]
        simp [tells, hr, hn, putS, bhd]
      · simp only [hn, decide_false, Bool.and_false, cond_false]
        rw [j20 s hs, hr]
        simp [tells, hr, hn]
theorem e_saw (hf : fine t.list) (hi : i < t.list.length) : m_judge_trial_saw_l1 t (i : Int) = some (sawS t i) := by
  unfold m_judge_trial_saw_l1
  have e0 : inle (i : Int) t.list.length = true := by simp only [inle, Bool.and_eq_true, decide_eq_true_eq]; omega
  rw [e0]
  simp only [chk, cond_true, Int.toNat_natCast]
  have key : ∀ (L : Acts) (k : Nat) (s : DS), k ≤ i → L = (List.take i t.list).drop k → CS s →
      forI (m_judge_trial_saw_l1_b16 t (i : Int)) (fun m12 => some m12) k L s = some ((L.flatMap fun a => bif (a.sess == (gt t.list i).sess) && a.oK then tells a else []).foldl (putS t) s) := by
    intro L
    induction L with
    | nil => intro k s _ _ _; rfl
    | cons a L ih =>
      intro k s hk hL hs
      have hkl : k < (List.take i t.list).length := by
        have := congrArg List.length hL
        rw [List.length_drop, List.length_cons] at this; omega
      rw [drop_gt hkl] at hL
      obtain ⟨ha, hL⟩ := List.cons.inj hL
      rw [forI_cons, e_sawstep hi ha (by
        rw [ha, gt_eq hkl, List.getElem_take, ← gt_eq (by rw [List.length_take] at hkl; omega)]; exact hf.at_ k) hs, ih (k + 1) _ (by rw [List.length_take] at hkl; omega) hL (foldp_cs hs), List.flatMap_cons, List.foldl_append]
  rw [key _ 0 [] (by omega) (by rw [List.drop_zero]) cs_nil]; rfl
end
end Fw
end Go.Proofs.Ytldpanjodokefaa
