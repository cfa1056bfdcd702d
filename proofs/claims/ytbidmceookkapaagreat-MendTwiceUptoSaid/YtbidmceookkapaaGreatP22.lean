/- What is held; the law MendAnswers, as the printed models say it. No condition. -/
import Derived.Test.YtbidmceookkapaaGreatP21
namespace Go.Proofs.YtbidmceookkapaaGreat
namespace Fw
set_option linter.unusedVariables false
set_option linter.unusedSimpArgs false
set_option linter.unusedSectionVars false

theorem e_Held_t {l : List Rec} (hok : ∀ r ∈ l, RecOk r) (hl : l.length + 4 ≤ lim) (hr : ∀ r ∈ l, rr r = true) : m_firthref14_Held l = some (addL l, true) := by
  unfold m_firthref14_Held
  refine forI_run (fun i out => out = addL (l.take i)) (fun out h => by rw [h, List.take_length]) (fun f i out hi h hf => ?_) rfl
  have hm := gt_mem hi
  have hlen := addL_len (l.take i)
  rw [List.length_take] at hlen
  unfold m_firthref14_Held_b1
  rw [e_rRec (hok _ hm), Option.bind_some, hr _ hm, Bool.not_true, cond_false, e_With (by rw [h]; omega), Option.bind_some]
  exact hf _ (by rw [take_gt hi, addL_snoc, h])
theorem e_Held_f {l : List Rec} (hok : ∀ r ∈ l, RecOk r) (hl : l.length + 4 ≤ lim) (hr : ∃ r ∈ l, rr r = false) : m_firthref14_Held l = some ([], false) := by
  unfold m_firthref14_Held
  refine forI_run (fun i (out : List Rec) => out.length ≤ i ∧ ∀ j, j < i → rr (gt l j) = true) (fun out h => ?_) (fun f i out hi h hf => ?_) ⟨Nat.le_refl _, fun j hj => absurd hj (Nat.not_lt_zero _)⟩
  · obtain ⟨r, h1, h2⟩ := hr
    obtain ⟨j, hj, rfl⟩ := mem_gt h1
    rw [h.2 j hj] at h2; cases h2
  · have hm := gt_mem hi
    unfold m_firthref14_Held_b1
    rw [e_rRec (hok _ hm), Option.bind_some]
    cases hc : rr (gt l i) with
    | false => rfl
    | true =>
      rw [Bool.not_true, cond_false, e_With (by omega), Option.bind_some]
      refine hf _ ⟨by have := withr_len out (gt l i); omega, fun j hj => ?_⟩
      by_cases e : j = i
      · subst e; exact hc
      · exact h.2 j (by omega)
theorem all_or (l : List Rec) : (∀ r ∈ l, rr r = true) ∨ ∃ r ∈ l, rr r = false := by
  rcases Classical.em (∃ r ∈ l, rr r = false) with h | h
  · exact .inr h
  · refine .inl fun r hm => ?_
    cases hc : rr r with
    | true => rfl
    | false => exact absurd ⟨r, hm, hc⟩ h
theorem addL_rcs {l : List Rec} {o : OTree} (hl : l.length ≤ 1048576) (h : Good o (addL l)) : Rcs (addL l) := ⟨fun r hr => ⟨(h.ok r hr).1, (h.ok r hr).2.1⟩, by have := addL_len l; omega⟩
def rcV (L : List Rec) (path : List Int) : List Rec := bif okP path then L.filter (inP path) else []
theorem e_RecsV {o : OTree} {all : List Rec} (hG : Good o all) (hn : all.length ≤ 4194304) (path : List Int) : m_tree_Tree_Recs o path = some (rcV all path) := e_Recs hG (by rw [lim_v]; omega) path

/-! ### Open and Answer -/
theorem e_Open_t {own : List Rec} (hok : ∀ r ∈ own, RecOk r) (hl : own.length ≤ 4194304) (hr : ∀ r ∈ own, rr r = true) : m_mend_Open own = some (kidsV (addL own) []) := by
  unfold m_mend_Open
  obtain ⟨o, h1, h2⟩ := e_New_t hok hr
  have hn : (addL own).length ≤ 4194304 := by have := addL_len own; omega
  rw [h1, Option.bind_some]
  simp only
  rw [show ((0 : Int) != 0) = false from rfl, cond_false, Option.bind_some]
  obtain ⟨r, e1, v1, g1⟩ := e_TKids hn h2 []
  rw [e1, Option.bind_some, v1]
theorem e_Open_f {own : List Rec} (hok : ∀ r ∈ own, RecOk r) (hr : ∃ r ∈ own, rr r = false) : m_mend_Open own = some [] := by
  unfold m_mend_Open
  rw [e_New_f hok hr, Option.bind_some]; rfl
def stepA (L : List Rec) (p : List Int) : Dmend_Step := bif decide (p.length = 1) then ⟨p, kidsV L p, []⟩ else ⟨p, [], rcV L p⟩
def stepB (L : List Rec) (p : List Int) : Dfirthref14_Step := bif decide (p.length = 1) then ⟨p, kidsV L p, []⟩ else ⟨p, [], rcV L p⟩
def ansD (L : List Rec) (path hashes : List Int) : List (List Int) := bif okP path && decide (path.length ≤ 1) then (dif (kidsV L path) hashes).map (fun d => path ++ [d]) else []
theorem len1 (p : List Int) : (((p.length : Nat) : Int) == 1) = decide (p.length = 1) := by rw [Bool.eq_iff_iff, beq_iff_eq, decide_eq_true_eq]; omega
theorem dif_len16 (a b : List Int) : (dif a b).length ≤ 16 := dif_len a b 16
theorem kids_emp (L : List Rec) (path : List Int) : (kidsV L path).isEmpty = !(okP path && decide (path.length ≤ 1)) := by
  unfold kidsV
  cases okP path && decide (path.length ≤ 1) <;> rfl
theorem gt1 (path : List Int) : decide (1 < ((path.length : Nat) : Int)) = !decide (path.length ≤ 1) := by
  rw [Bool.eq_iff_iff]; simp; omega
theorem e_Answer_t {own : List Rec} (hok : ∀ r ∈ own, RecOk r) (hl : own.length ≤ 4194304) (hr : ∀ r ∈ own, rr r = true) (path hashes : List Int) : m_mend_Answer own path hashes = some ((ansD (addL own) path hashes).map (stepA (addL own))) := by
  unfold m_mend_Answer
  obtain ⟨o, h1, h2⟩ := e_New_t hok hr
  have hn : (addL own).length ≤ 4194304 := by have := addL_len own; omega
  generalize addL own = L at *
  rw [h1, Option.bind_some]
  simp only
  rw [show ((0 : Int) != 0) = false from rfl, Bool.false_or, gt1]
  unfold ansD
  cases hl1 : decide (path.length ≤ 1) with
  | false => rw [Bool.not_false, cond_true, Bool.and_false, cond_false]; rfl
  | true =>
    rw [Bool.not_true, cond_false, Option.bind_some, Bool.and_true]
    obtain ⟨r, e1, v1, g1⟩ := e_TKids hn h2 path
    rw [e1, Option.bind_some, v1, kids_emp, hl1, Bool.and_true]
    cases ho : okP path with
    | false => rfl
    | true =>
      rw [Bool.not_true, cond_false, cond_true, e_Differ, Option.bind_some]
      have hp1 := of_decide_eq_true hl1
      have hdl := dif_len16 (kidsV L path) hashes
      generalize dif (kidsV L path) hashes = D at hdl ⊢
      refine forI_run (fun i (s : List Dmend_Step × OTree) => s.1 = ((D.take i).map (fun d => path ++ [d])).map (stepA L) ∧ Good s.2 L) (fun s hI => ?_) (fun f i s hi hI hf => ?_) ⟨rfl, g1⟩
      · obtain ⟨out, o4⟩ := s
        have h4 := hI.1
        rw [List.take_length] at h4
        simp only at h4 ⊢
        rw [h4]
      · obtain ⟨out, o4⟩ := s
        obtain ⟨h4, h5⟩ := hI
        simp only at h4 h5
        have hol : out.length ≤ 16 := by rw [h4]; simp only [List.length_map, List.length_take]; omega
        have hnext : ∀ st o5, Good o5 L → st = stepA L (path ++ [gt D i]) → f (out ++ [st], o5) = some ((D.map (fun d => path ++ [d])).map (stepA L)) := fun st o5 hg hst => hf _ ⟨by simp only; rw [take_gt hi, List.map_append, List.map_append, h4, hst]; rfl, hg⟩
        unfold m_mend_Answer_b1 m_mend_Answer_1
        simp only
        rw [e_cloneI (by rw [lim_v]; omega), Option.bind_some, chk_t (decide_eq_true (by rw [lim_v]; omega)), len1]
        cases hc : decide ((path ++ [gt D i]).length = 1) with
        | true =>
          rw [cond_true]
          obtain ⟨r6, e6, v6, g6⟩ := e_TKids hn h5 (path ++ [gt D i])
          rw [e6, Option.bind_some, Option.bind_some, chk_t (decide_eq_true (by rw [lim_v]; omega))]
          refine hnext _ _ g6 ?_
          unfold stepA
          rw [hc, cond_true, v6]
        | false =>
          rw [cond_false, e_RecsV h5 hn, Option.bind_some, Option.bind_some, chk_t (decide_eq_true (by rw [lim_v]; omega))]
          refine hnext _ _ h5 ?_
          unfold stepA
          rw [hc, cond_false]
theorem e_Answer_f {own : List Rec} (hok : ∀ r ∈ own, RecOk r) (hr : ∃ r ∈ own, rr r = false) (path hashes : List Int) : m_mend_Answer own path hashes = some [] := by
  unfold m_mend_Answer
  rw [e_New_f hok hr, Option.bind_some]; rfl
theorem e_rAnswer_t {own : List Rec} (hok : ∀ r ∈ own, RecOk r) (hl : own.length ≤ 1048576) (hr : ∀ r ∈ own, rr r = true) (hA : Rcs (addL own)) (path hashes : List Int) : m_firthref14_Answer own path hashes = some ((ansD (addL own) path hashes).map (stepB (addL own))) := by
  unfold m_firthref14_Answer
  rw [e_Held_t hok (by rw [lim_v]; omega) hr, Option.bind_some]
  generalize addL own = L at *
  simp only [Bool.not_true, Bool.false_or]
  rw [gt1, Bool.not_not, e_rPath, gcall_s, Option.bind_some]
  unfold ansD
  cases hl1 : decide (path.length ≤ 1) with
  | false => rw [Bool.and_false, cond_false]; rfl
  | true =>
    rw [cond_true, Bool.not_true, Bool.false_or, Bool.and_true]
    cases ho : okP path with
    | false => rfl
    | true =>
      rw [Bool.not_true, cond_false, cond_true, e_rKids hA, Option.bind_some, e_rDiffer, Option.bind_some]
      have hp1 := of_decide_eq_true hl1
      have hdl := dif_len16 (kidsV L path) hashes
      generalize dif (kidsV L path) hashes = D at hdl ⊢
      refine forI_run (fun i (s : List Dfirthref14_Step) => s = ((D.take i).map (fun d => path ++ [d])).map (stepB L)) (fun s hI => ?_) (fun f i s hi hI hf => ?_) rfl
      · rw [List.take_length] at hI
        rw [hI]
      · have hol : s.length ≤ 16 := by rw [hI]; simp only [List.length_map, List.length_take]; omega
        have hnext : ∀ st, st = stepB L (path ++ [gt D i]) → f (s ++ [st]) = some ((D.map (fun d => path ++ [d])).map (stepB L)) := fun st hst => hf _ (by rw [take_gt hi, List.map_append, List.map_append, ← hI, hst]; rfl)
        unfold m_firthref14_Answer_b4 m_firthref14_Answer_j5
        simp only
        rw [chk_t (decide_eq_true (by rw [lim_v]; omega)), chk_t (decide_eq_true (by rw [lim_v]; omega)), len1]
        cases hc : decide ((path ++ [gt D i]).length = 1) with
        | true =>
          rw [cond_true, e_rKids hA, Option.bind_some, chk_t (decide_eq_true (by rw [lim_v]; omega))]
          refine hnext _ ?_
          unfold stepB
          rw [hc, cond_true]
        | false =>
          rw [cond_false, e_rRecs hA.len, Option.bind_some, chk_t (decide_eq_true (by rw [lim_v]; omega))]
          refine hnext _ ?_
          unfold stepB
          rw [hc, cond_false]; rfl
theorem e_rAnswer_f {own : List Rec} (hok : ∀ r ∈ own, RecOk r) (hl : own.length ≤ 1048576) (hr : ∃ r ∈ own, rr r = false) (path hashes : List Int) : m_firthref14_Answer own path hashes = some [] := by
  unfold m_firthref14_Answer
  rw [e_Held_f hok (by rw [lim_v]; omega) hr, Option.bind_some, e_rPath, gcall_s, Option.bind_some]; rfl
theorem step_path (L : List Rec) (p : List Int) : (stepA L p).path = (stepB L p).path ∧ (stepA L p).hashes = (stepB L p).hashes ∧ (stepA L p).recs = (stepB L p).recs := by
  unfold stepA stepB
  cases decide (p.length = 1) <;> exact ⟨rfl, rfl, rfl⟩
theorem e_steps (L : List Rec) (ps : List (List Int)) : m_firthlaw14_steps (ps.map (stepA L)) (ps.map (stepB L)) = some true := by
  unfold m_firthlaw14_steps
  rw [List.length_map, List.length_map, int_nf, cond_false]
  refine forI_run (fun _ _ => True) (fun _ _ => rfl) (fun f i s hi _ hf => ?_) trivial
  rw [List.length_map] at hi
  have hA : gt (ps.map (stepA L)) i = stepA L (gt ps i) := by rw [gt_eq (by rw [List.length_map]; exact hi), List.getElem_map, gt_eq hi]
  have hB : gt (ps.map (stepB L)) i = stepB L (gt ps i) := by rw [gt_eq (by rw [List.length_map]; exact hi), List.getElem_map, gt_eq hi]
  obtain ⟨h1, h2, h3⟩ := step_path L (gt ps i)
  unfold m_firthlaw14_steps_b1
  rw [hA, hB, h1, h2, h3, List.length_map, chk_t (decide_eq_true hi), e_Ints, Option.bind_some, e_Hashes, gcall_s, Option.bind_some, e_SameRecs, gcall_s, Option.bind_some]
  exact hf () trivial
theorem answers_law {own : List Rec} (path hashes : List Int) (hok : ∀ r ∈ own, RecOk r) (hl : own.length ≤ 1048576) : m_firthlaw14_MendAnswers own path hashes = some true := by
  unfold m_firthlaw14_MendAnswers m_firthlaw14_MendAnswers_j1
  rw [awake14, Option.bind_some, Bool.not_true, cond_false]
  rcases all_or own with hr | hr
  · obtain ⟨o, _, h2⟩ := e_New_t hok hr
    have hA := addL_rcs hl h2
    rw [e_Held_t hok (by rw [lim_v]; omega) hr, Option.bind_some]
    simp only [cond_true]
    rw [e_rKids hA, Option.bind_some, e_Open_t hok (by omega) hr, Option.bind_some, e_Hashes, Option.bind_some, cond_true, e_Answer_t hok (by omega) hr, Option.bind_some, e_rAnswer_t hok hl hr hA, Option.bind_some, e_steps]; rfl
  · rw [e_Held_f hok (by rw [lim_v]; omega) hr, Option.bind_some]
    simp only [cond_false]
    rw [e_Open_f hok hr, Option.bind_some, e_Hashes, Option.bind_some, cond_true, e_Answer_f hok hr, Option.bind_some, e_rAnswer_f hok hl hr, Option.bind_some]
    rfl
theorem p_firthlaw14_MendAnswers {Γ : Gh} {A : Option Addr} {c : Nat} {own : List Rec} (hs : Sl recT Γ A own) (hc : own.length ≤ c) {A2 : Option Addr} {c2 : Nat} {path : List Int} (hs2 : Sl intT Γ A2 path) (hc2 : path.length ≤ c2) {A3 : Option Addr} {c3 : Nat} {hashes : List Int} (hs3 : Sl u64T Γ A3 hashes) (hc3 : hashes.length ≤ c3) (m1 : bkL Rec.bk own ≤ 1048576) (m2 : bkL bkOne path ≤ 1048576) (m3 : bkL bkOne hashes ≤ 1048576) :
    m_firthlaw14_MendAnswers own path hashes = some true := answers_law path hashes (sl_recOk hs) (recs_len m1)
end Fw
end Go.Proofs.YtbidmceookkapaaGreat
