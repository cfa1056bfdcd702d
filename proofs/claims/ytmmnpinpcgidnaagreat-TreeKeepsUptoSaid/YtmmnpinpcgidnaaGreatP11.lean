/- Trees: the hashes of places and of their kids. No condition. -/
import Derived.Test.YtmmnpinpcgidnaaGreatP10
namespace Go.Proofs.YtmmnpinpcgidnaaGreat
namespace Fw
set_option linter.unusedVariables false
set_option linter.unusedSimpArgs false
set_option linter.unusedSectionVars false

theorem lim_v : lim = 2147483648 := rfl
theorem forU_ex {S R : Type} {body : (S → Option R) → Nat → S → Option R} {k : S → Option R} {n : Nat} (I : Nat → S → Prop) (Q : R → Prop) (hend : ∀ s, I n s → ∃ r, k s = some r ∧ Q r)
    (hstep : ∀ f i s, i < n → I i s → (∀ s', I (i + 1) s' → ∃ r, f s' = some r ∧ Q r) → ∃ r, body f i s = some r ∧ Q r) {s : S} (h0 : I 0 s) : ∃ r, forU body k n 0 s = some r ∧ Q r := by
  have key : ∀ m i s, i + m = n → I i s → ∃ r, forU body k m i s = some r ∧ Q r := by
    intro m
    induction m with
    | zero =>
      intro i s hm hI
      obtain rfl : i = n := by omega
      exact hend s hI
    | succ m ih =>
      intro i s hm hI
      exact hstep _ i s (by omega) hI fun s' h' => ih (i + 1) s' (by omega) h'
  exact key n 0 s (by omega) h0

/-! ### paths and their keys -/
theorem pa_rng (k : ByteArray) : (0 : Int) ≤ ((pa k : Nat) : Int) ∧ ((pa k : Nat) : Int) ≤ 15 := by have := pa_lt k; omega
theorem pb_rng (k : ByteArray) : (0 : Int) ≤ ((pb k : Nat) : Int) ∧ ((pb k : Nat) : Int) ≤ 15 := by have := pb_lt k; omega
theorem inP_bad {path : List Int} (h : okP path = false) (r : Rec) : inP path r = false := by
  have ha := pa_rng r.key
  have hb := pb_rng r.key
  cases hc : inP path r with
  | false => rfl
  | true =>
    exfalso
    match path with
    | [] => simp [okP] at h
    | [a] =>
      simp only [inP, beq_iff_eq] at hc
      subst hc
      simp only [okP, List.all_cons, List.all_nil, Bool.and_true, List.length_cons, List.length_nil] at h
      rw [okd_t ha] at h
      simp at h
    | [a, b] =>
      simp only [inP, Bool.and_eq_true, beq_iff_eq] at hc
      obtain ⟨rfl, rfl⟩ := hc
      simp only [okP, List.all_cons, List.all_nil, Bool.and_true, List.length_cons, List.length_nil] at h
      rw [okd_t ha, okd_t hb] at h
      simp at h
    | a :: b :: c :: l => simp [inP] at hc
theorem filt_bad {path : List Int} (h : okP path = false) (all : List Rec) : all.filter (inP path) = [] := by
  rw [List.filter_eq_nil_iff]
  intro r _
  rw [inP_bad h r]; decide
theorem Hs_bad {path : List Int} (h : okP path = false) (all : List Rec) : Hs all path = 0 := by
  match path with
  | [] => simp [okP] at h
  | [a] => show hs1 all a = 0; unfold hs1; rw [filt_bad h]; rfl
  | [a, b] => show hs2 all a b = 0; unfold hs2; rw [filt_bad h]; rfl
  | a :: b :: c :: l => rfl
theorem ok_len {path : List Int} (h : okP path = true) : path.length ≤ 2 := by
  unfold okP at h
  exact of_decide_eq_true (Bool.and_eq_true_iff.1 h).1
theorem ok_dig {path : List Int} (h : okP path = true) {d : Int} (hd : d ∈ path) : 0 ≤ d ∧ d ≤ 15 := by
  unfold okP at h
  have := List.all_eq_true.1 (Bool.and_eq_true_iff.1 h).2 d hd
  simpa using this
theorem ok_i64 {path : List Int} (h : okP path = true) (i : Nat) : i64b (gt path i) = true := by
  have : 0 ≤ gt path i ∧ gt path i ≤ 15 := by
    by_cases hi : i < path.length
    · exact ok_dig h (gt_mem hi)
    · have : gt path i = 0 := by unfold gt; simp [List.getD, List.getElem?_eq_none (Nat.le_of_not_lt hi)]
      omega
  unfold i64b; simp; omega
theorem ok_ext {path : List Int} (h : okP path = true) (hl : path.length ≤ 1) {d : Nat} (hd : d < 16) : okP (path ++ [((d : Nat) : Int)]) = true := by
  unfold okP at *
  have h2 := (Bool.and_eq_true_iff.1 h).2
  rw [Bool.and_eq_true_iff]
  refine ⟨decide_eq_true (by simp; omega), ?_⟩
  rw [List.all_append, h2, Bool.true_and]
  simp; omega
theorem key_path {p q : List Int} (hp : okP p = true) (hq : okP q = true) (h : (((p.length : Nat) : Int), gt p 0, gt p 1) = (((q.length : Nat) : Int), gt q 0, gt q 1)) : p = q := by
  injection h with h1 h2
  injection h2 with h2 h3
  have hl : p.length = q.length := by omega
  match p, q, hl with
  | [], [], _ => rfl
  | [a], [b], _ => exact congrArg (fun x => [x]) h2
  | [a, b], [c, d], _ =>
    have e1 : a = c := h2
    have e2 : b = d := h3
    rw [e1, e2]
  | a :: b :: c :: l, q, _ => simp [okP] at hp

/-! ### hashes of places, by any hand that makes them -/
def PH (all : List Rec) (H : OTree → List Int → Option (OTree × Int)) (path : List Int) : Prop :=
  ∀ o, Good o all → ∃ o', H o path = some (o', Hs all path) ∧ Good o' all ∧ ∀ p ∈ o'.sums, p ∈ o.sums ∨ ((path.length : Nat) : Int) ≤ p.1.1
def kidsV (all : List Rec) (path : List Int) : List Int := bif okP path && decide (path.length ≤ 1) then (List.range 16).map (fun d : Nat => Hs all (path ++ [((d : Nat) : Int)])) else []
theorem e_Kids {H : OTree → List Int → Option (OTree × Int)} {all : List Rec} {o : OTree} {path : List Int} (hG : Good o all) (hH : ∀ d : Nat, d < 16 → okP path = true → path.length ≤ 1 → PH all H (path ++ [((d : Nat) : Int)])) :
    ∃ r, m_tree_Tree_Kids H o path = some r ∧ r.2 = kidsV all path ∧ Good r.1 all ∧ ∀ p ∈ r.1.sums, p ∈ o.sums ∨ ((path.length : Nat) : Int) + 1 ≤ p.1.1 := by
  unfold m_tree_Tree_Kids kidsV
  obtain ⟨z, hz, hz2, _⟩ := e_at path
  rw [hz, Option.bind_some, hz2]
  have hd : (!okP path || decide (1 < ((path.length : Nat) : Int))) = !(okP path && decide (path.length ≤ 1)) := by
    have : decide (1 < ((path.length : Nat) : Int)) = !(decide (path.length ≤ 1)) := by
      rw [Bool.eq_iff_iff]; simp; omega
    rw [this]; cases okP path <;> rfl
  rw [hd]
  cases hc : okP path && decide (path.length ≤ 1) with
  | false =>
    rw [Bool.not_false, cond_true, cond_false]
    exact ⟨_, rfl, rfl, hG, fun p hp => .inl hp⟩
  | true =>
    obtain ⟨ho, hl⟩ := Bool.and_eq_true_iff.1 hc
    have hl := of_decide_eq_true hl
    rw [Bool.not_true, cond_false, cond_true]
    refine forU_ex (fun i (s : List Int × OTree) => s.1 = (List.range i).map (fun d : Nat => Hs all (path ++ [((d : Nat) : Int)])) ∧ Good s.2 all ∧ ∀ p ∈ s.2.sums, p ∈ o.sums ∨ ((path.length : Nat) : Int) + 1 ≤ p.1.1)
      (fun r : OTree × List Int => r.2 = (List.range 16).map (fun d : Nat => Hs all (path ++ [((d : Nat) : Int)])) ∧ Good r.1 all ∧ ∀ p ∈ r.1.sums, p ∈ o.sums ∨ ((path.length : Nat) : Int) + 1 ≤ p.1.1) (fun s hI => ?_) (fun f i s hi hI hf => ?_) ⟨rfl, hG, fun p hp => .inl hp⟩
    · obtain ⟨out, o1⟩ := s
      refine ⟨(o1, out), ?_, hI⟩
      have h1 : out = _ := hI.1
      have hlen : 0 < out.length := by rw [h1]; simp
      first
        | rfl
        | (simp only; rw [chk_t (decide_eq_true hlen)])
    · obtain ⟨out, o1⟩ := s
      obtain ⟨h1, h2, h3⟩ := hI
      simp only at h1 h2 h3
      unfold m_tree_Tree_Kids_b1
      simp only
      obtain ⟨o', e1, e2, e3⟩ := hH i hi ho hl o1 h2
      have hol : out.length = i := by rw [h1, List.length_map, List.length_range]
      rw [e_cloneI (by rw [lim_v]; omega), Option.bind_some, chk_t (decide_eq_true (by rw [lim_v]; omega)), chk_t (decide_eq_true (by simp)), e1, Option.bind_some, chk_t (decide_eq_true (by rw [lim_v]; omega))]
      refine hf _ ⟨?_, e2, fun p hp => ?_⟩
      · simp only
        rw [List.range_succ, List.map_append, h1]; rfl
      · rcases e3 p hp with h | h
        · exact h3 p h
        · right
          rw [List.length_append] at h
          simp only [List.length_cons, List.length_nil] at h
          omega
theorem all_i (all : List Rec) : all.filter (inP []) = all := by rw [List.filter_eq_self]; intro a _; rfl
theorem emp_len {α : Type} (l : List α) : decide (0 < ((l.length : Nat) : Int)) = !l.isEmpty := by cases l <;> simp
theorem e_reckon {H : OTree → List Int → Option (OTree × Int)} {all : List Rec} {o : OTree} {path : List Int} (hG : Good o all) (hn : all.length ≤ 4194304) (ho : okP path = true) (hH : ∀ d : Nat, d < 16 → okP path = true → path.length ≤ 1 → PH all H (path ++ [((d : Nat) : Int)])) :
    ∃ o', m_tree_Tree_reckon H o path = some (o', Hs all path) ∧ Good o' all ∧ ∀ p ∈ o'.sums, p ∈ o.sums ∨ ((path.length : Nat) : Int) + 1 ≤ p.1.1 := by
  unfold m_tree_Tree_reckon
  have hlim : all.length + 2 ≤ lim := by rw [lim_v]; omega
  rw [e_Recs hG hlim, Option.bind_some, ho, cond_true]
  by_cases hl2 : path.length = 2
  · rw [show ((((path.length : Nat) : Int)) == 2) = true by rw [hl2]; rfl, cond_true]
    refine ⟨o, ?_, hG, fun p hp => .inl hp⟩
    have hsub : ∀ r ∈ all.filter (inP path), RecOk r ∧ rr r = true := fun r hr => ⟨(hG.ok r (List.mem_filter.1 hr).1).1, (hG.ok r (List.mem_filter.1 hr).1).2.1⟩
    have hfl : (all.filter (inP path)).length ≤ all.length := List.length_filter_le _ _
    have hHs : Hs all path = bif (all.filter (inP path)).isEmpty then 0 else hashB ((all.filter (inP path)).flatMap (fun r => hv (hashB (markB r.key r.vers)))) := by
      match path, hl2 with
      | [a, b], _ => rfl
    rw [hHs]
    generalize all.filter (inP path) = l at hsub hfl ⊢
    refine (forI_inv (fun i (s : List UInt8 × Bool) => m_tree_Tree_reckon_j1 (s.1 ++ (l.drop i).flatMap (fun r => hv (hashB (markB r.key r.vers)))) (s.2 || !(l.drop i).isEmpty) o) (fun i s => s.1.length ≤ 20 * i) (fun s hI => ?_) (fun f i s hi hI hf => ?_) (by simp)).trans ?_
    · obtain ⟨b, c⟩ := s
      simp [List.drop_of_length_le]
    · obtain ⟨b, c⟩ := s
      simp only at hI
      obtain ⟨h1, h2⟩ := hsub _ (gt_mem hi)
      have h3 := rr_len h2
      unfold m_tree_Tree_reckon_b4
      simp only
      have hk : (gt l i).key.size + 10 + 20 * (gt l i).vers.length ≤ lim := by rw [lim_v]; omega
      rw [e_Mark hk, Option.bind_some, chk_t (hashB_u64 _), e_halves _ (by rw [lim_v]; omega), Option.bind_some]
      have := hv_len (hashB (markB (gt l i).key (gt l i).vers))
      rw [hf _ (by simp only [List.length_append]; omega), drop_gt hi, List.flatMap_cons]
      simp
    · rw [List.drop_zero, Bool.false_or, List.nil_append]
      unfold m_tree_Tree_reckon_j1
      rw [Bool.not_not, e_Hash, Option.bind_some, chk_t (hashB_u64 _)]
      cases l.isEmpty <;> rfl
  · have hl1 : path.length ≤ 1 := by have := ok_len ho; omega
    rw [show ((((path.length : Nat) : Int)) == 2) = false by rw [beq_eq_false_iff_ne]; omega, cond_false]
    obtain ⟨r, e1, e2, e3, e4⟩ := e_Kids (H := H) hG hH
    refine ⟨r.1, ?_, e3, e4⟩
    rw [e1, Option.bind_some, Option.bind_some, e2]
    have hk : kidsV all path = (List.range 16).map (fun d : Nat => Hs all (path ++ [((d : Nat) : Int)])) := by
      unfold kidsV
      rw [ho, decide_eq_true hl1]; rfl
    have hkl : (kidsV all path).length = 16 := by rw [hk, List.length_map, List.length_range]
    have hHs : Hs all path = bif (all.filter (inP path)).isEmpty then 0 else hashB ((kidsV all path).flatMap hv) := by
      rw [hk]
      match path, hl1 with
      | [], _ => rw [all_i]; rfl
      | [a], _ => rfl
    rw [hHs]
    generalize kidsV all path = l at hkl ⊢
    generalize all.filter (inP path) = l2
    refine (forI_inv (fun i (s : List UInt8) => m_tree_Tree_reckon_j1 (s ++ (l.drop i).flatMap hv) (decide (0 < ((l2.length : Nat) : Int))) r.1) (fun i s => s.length ≤ 20 * i) (fun s hI => ?_) (fun f i s hi hI hf => ?_) (by simp)).trans ?_
    · simp [List.drop_of_length_le]
    · unfold m_tree_Tree_reckon_b5
      rw [e_halves _ (by rw [lim_v]; omega), Option.bind_some]
      have := hv_len (gt l i)
      rw [hf _ (by simp only [List.length_append]; omega), drop_gt hi, List.flatMap_cons, List.append_assoc]
    · rw [List.drop_zero, List.nil_append]
      unfold m_tree_Tree_reckon_j1
      rw [e_Hash, Option.bind_some, chk_t (hashB_u64 _), emp_len, Bool.not_not]
      cases l2.isEmpty <;> rfl
theorem e_hashB {H : OTree → List Int → Option (OTree × Int)} {all : List Rec} {path : List Int} (hn : all.length ≤ 4194304) (hH : ∀ d : Nat, d < 16 → okP path = true → path.length ≤ 1 → PH all H (path ++ [((d : Nat) : Int)])) : PH all (m_hashB H) path := by
  intro o hG
  unfold m_hashB
  obtain ⟨z, hz, hz2, hz3⟩ := e_at path
  rw [hz, Option.bind_some, hz2]
  cases ho : okP path with
  | false =>
    rw [Bool.not_false, cond_true, Hs_bad ho]
    exact ⟨o, rfl, hG, fun p hp => .inl hp⟩
  | true =>
    rw [Bool.not_true, cond_false, hz3 ho, chk_t (decide_eq_true rfl), chk_t (ok_i64 ho 0), chk_t (ok_i64 ho 1)]
    cases hm : mget ((((path.length : Nat) : Int)), gt path 0, gt path 1) o.sums with
    | some h =>
      obtain ⟨path', h1, h2, h3⟩ := hG.sums _ (mget_mem hm)
      have : path = path' := key_path ho h1 h2
      subst this
      simp only at h3
      subst h3
      exact ⟨o, rfl, hG, fun p hp => .inl hp⟩
    | none =>
      obtain ⟨o', e1, e2, e3⟩ := e_reckon (H := H) hG hn ho hH
      simp only
      rw [e1, Option.bind_some]
      have hno : ((((path.length : Nat) : Int)), gt path 0, gt path 1) ∉ o'.sums.map (·.1) := by
        intro hmem
        obtain ⟨p, hp, he⟩ := List.mem_map.1 hmem
        rcases e3 p hp with h | h
        · exact mget_none.1 hm (List.mem_map.2 ⟨p, h, he⟩)
        · rw [he] at h
          simp only at h
          omega
      refine ⟨_, rfl, ⟨e2.len, e2.srt, e2.ok, e2.nk, e2.mem, ?_, fun p hp => ?_⟩, fun p hp => ?_⟩
      · simp only [List.map_append, List.map_cons, List.map_nil]
        rw [List.nodup_append]
        refine ⟨e2.sk, by simp, fun a ha b hb => ?_⟩
        rw [List.mem_singleton] at hb
        rintro rfl
        exact hno (by rw [← hb]; exact ha)
      · rcases List.mem_append.1 hp with h | h
        · exact e2.sums p h
        · rw [List.mem_singleton] at h
          subst h
          exact ⟨path, ho, rfl, rfl⟩
      · rcases List.mem_append.1 hp with h | h
        · rcases e3 p h with h | h
          · exact .inl h
          · right; omega
        · rw [List.mem_singleton] at h
          subst h
          right; exact Int.le_refl _
theorem e_hashN {all : List Rec} (hn : all.length ≤ 4194304) : ∀ (n : Nat) (path : List Int), 3 ≤ path.length + n → 1 ≤ n → PH all (m_hashN n) path
  | 0, path, _, h => absurd h (by omega)
  | n + 1, path, h, _ => e_hashB hn fun d hd ho hl => e_hashN hn n _ (by rw [List.length_append]; simp; omega) (by omega)
theorem e_THash {all : List Rec} (hn : all.length ≤ 4194304) (path : List Int) : PH all m_tree_Tree_Hash path := fun o hG => e_hashN hn 3 path (by omega) (by omega) o hG
theorem e_TKids {all : List Rec} (hn : all.length ≤ 4194304) {o : OTree} (hG : Good o all) (path : List Int) : ∃ r, m_tree_Tree_Kids m_tree_Tree_Hash o path = some r ∧ r.2 = kidsV all path ∧ Good r.1 all := by
  obtain ⟨r, e1, e2, e3, _⟩ := e_Kids (H := m_tree_Tree_Hash) (path := path) hG fun d _ _ _ => e_THash hn _
  exact ⟨r, e1, e2, e3⟩
theorem e_THash1 {all : List Rec} (hn : all.length ≤ 4194304) {o : OTree} (hG : Good o all) (path : List Int) : ∃ o', m_tree_Tree_Hash o path = some (o', Hs all path) ∧ Good o' all := by
  obtain ⟨o', e1, e2, _⟩ := e_THash hn path o hG
  exact ⟨o', e1, e2⟩
end Fw
end Go.Proofs.YtmmnpinpcgidnaaGreat
