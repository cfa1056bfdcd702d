/- The laws TreeFinds and TreeParts of layer 11, as the printed models say them. No condition. -/
import Derived.Test.YtmmnpinpcgidnaaP14
namespace Go.Proofs.Ytmmnpinpcgidnaa
namespace Fw
set_option linter.unusedVariables false
set_option linter.unusedSimpArgs false
set_option linter.unusedSectionVars false

/-! ### TreeFinds -/
theorem kids_gt {all : List Rec} {path : List Int} (h : (okP path && decide (path.length ≤ 1)) = true) {i : Nat} (hi : i < 16) : gt (kidsV all path) i = Hs all (path ++ [((i : Nat) : Int)]) := by
  unfold kidsV
  rw [h, cond_true, gt_eq (by rw [List.length_map, List.length_range]; exact hi), List.getElem_map, List.getElem_range]
theorem ok1 {i : Nat} (hi : i < 16) : okP [((i : Nat) : Int)] = true := ok_ext (path := []) rfl (Nat.zero_le _) hi
theorem ok2 {i j : Nat} (hi : i < 16) (hj : j < 16) : okP [((i : Nat) : Int), ((j : Nat) : Int)] = true := ok_ext (path := [((i : Nat) : Int)]) (ok1 hi) (Nat.le_refl _) hj
theorem inP_1 {i : Nat} {r : Rec} (h : i ≠ pa r.key) : inP [((i : Nat) : Int)] r = false := by
  show (((i : Nat) : Int) == ((pa r.key : Nat) : Int)) = false
  rw [beq_eq_false_iff_ne]; omega
theorem inP_2' {i j : Nat} {r : Rec} (h : i ≠ pa r.key ∨ j ≠ pb r.key) : inP [((i : Nat) : Int), ((j : Nat) : Int)] r = false := by
  show (((i : Nat) : Int) == ((pa r.key : Nat) : Int) && ((j : Nat) : Int) == ((pb r.key : Nat) : Int)) = false
  rw [Bool.and_eq_false_iff, beq_eq_false_iff_ne, beq_eq_false_iff_ne]; omega
theorem finds_law {list : List Rec} {r : Rec} (hok : ∀ r ∈ list, RecOk r) (hl : list.length ≤ 1048576) (hr : RecOk r) : m_firthlaw11_TreeFinds list r = some true := by
  unfold m_firthlaw11_TreeFinds
  rw [awake11, Option.bind_some, e_rRec hr, gcall_s, Option.bind_some]
  cases hc : rr r with
  | false =>
    simp only [Bool.not_true, Bool.not_false, cond_true, Bool.or_true, Option.bind_some]
  | true =>
    simp only [Bool.not_true, Bool.not_false, cond_true, Bool.or_false, cond_false]
    obtain ⟨o1, h1, h2⟩ := e_built hok (by rw [lim_v]; omega)
    have hn := allOf_len list
    rw [h1, Option.bind_some, Option.bind_some]
    generalize allOf list = L at *
    simp only [Bool.not_true, Bool.or_self, Bool.not_false, cond_true, Option.bind_some]
    have hg := h2.set hr hc
    have hwl := withr_len L r
    rw [e_Set h2.len hr, Option.bind_some, hc, cond_true]
    simp only
    rw [show ((0 : Int) != 0) = false from rfl, cond_false, e_Place, Option.bind_some]
    obtain ⟨r1, e1, v1, g1⟩ := e_TKids (by omega) h2 []
    obtain ⟨r2, e2, v2, g2⟩ := e_TKids (by omega) hg []
    rw [e1, Option.bind_some, e2, Option.bind_some, v1, v2, e_Differ, Option.bind_some]
    have hz0 : gt [((pa r.key : Nat) : Int), ((pb r.key : Nat) : Int)] 0 = ((pa r.key : Nat) : Int) := rfl
    have hz1 : gt [((pa r.key : Nat) : Int), ((pb r.key : Nat) : Int)] 1 = ((pb r.key : Nat) : Int) := rfl
    have hzl : [((pa r.key : Nat) : Int), ((pb r.key : Nat) : Int)].length = 2 := rfl
    have hpa := pa_lt r.key
    have hpb := pb_lt r.key
    generalize hz : [((pa r.key : Nat) : Int), ((pb r.key : Nat) : Int)] = z at hz0 hz1 hzl ⊢
    have hd : difN (kidsV L []) (kidsV (withr L r) []) = [] ∨ difN (kidsV L []) (kidsV (withr L r) []) = [pa r.key] := difN_one hpa fun i hi hne => by
      rw [kids_gt rfl hi, kids_gt rfl hi]
      exact (Hs_same h2.srt (inP_1 hne)).symm
    have tail : forU (m_firthlaw11_TreeFinds_b1 z) (fun (s : OTree × OTree) => some true) 16 0 (r2.1, r1.1) = some true := by
      refine forU_run (fun i (s : OTree × OTree) => Good s.1 (withr L r) ∧ Good s.2 L) (fun s hI => rfl) (fun f i s hi hI hf => ?_) ⟨g2, g1⟩
      obtain ⟨x, y⟩ := s
      obtain ⟨r3, e3, v3, g3⟩ := e_TKids (by omega) hI.2 [((i : Nat) : Int)]
      obtain ⟨r4, e4, v4, g4⟩ := e_TKids (by omega) hI.1 [((i : Nat) : Int)]
      unfold m_firthlaw11_TreeFinds_b1
      simp only at e3 e4 ⊢
      rw [e3, Option.bind_some, e4, Option.bind_some, v3, v4, e_Differ, Option.bind_some, hz0, hz1, hzl]
      have hkk : (okP [((i : Nat) : Int)] && decide ([((i : Nat) : Int)].length ≤ 1)) = true := by rw [ok1 hi]; rfl
      have hfin : f (r4.1, r3.1) = some true := hf _ ⟨g4, g3⟩
      by_cases e : i = pa r.key
      · have hd : difN (kidsV L [((i : Nat) : Int)]) (kidsV (withr L r) [((i : Nat) : Int)]) = [] ∨ difN (kidsV L [((i : Nat) : Int)]) (kidsV (withr L r) [((i : Nat) : Int)]) = [pb r.key] := difN_one hpb fun j hj hne => by
          rw [kids_gt hkk hj, kids_gt hkk hj]
          exact (Hs_same h2.srt (inP_2' (.inr hne))).symm
        subst e
        unfold dif
        rcases hd with hd | hd
        · rw [hd]
          exact hfin
        · rw [hd]
          have e0 : gt (List.map (fun i : Nat => ((i : Nat) : Int)) [pb r.key]) 0 = ((pb r.key : Nat) : Int) := rfl
          have el : (List.map (fun i : Nat => ((i : Nat) : Int)) [pb r.key]).length = 1 := rfl
          rw [e0, el, int_nf, int_nf]
          exact hfin
      · have hd : difN (kidsV L [((i : Nat) : Int)]) (kidsV (withr L r) [((i : Nat) : Int)]) = [] := by
          have hsame : ∀ j, j < 16 → gt (kidsV L [((i : Nat) : Int)]) j = gt (kidsV (withr L r) [((i : Nat) : Int)]) j := fun j hj => by
            rw [kids_gt hkk hj, kids_gt hkk hj]
            exact (Hs_same h2.srt (inP_2' (.inl e))).symm
          unfold difN
          rw [List.filter_eq_nil_iff]
          intro j hj
          rw [hsame j (List.mem_range.1 hj)]; simp
        unfold dif
        rw [hd]
        exact hfin
    have hz2 : ((((z.length : Nat) : Int)) != 2) = false := by rw [hzl]; rfl
    rw [hz2, hz0, hzl]
    unfold dif
    rcases hd with hd | hd
    · rw [hd]
      exact tail
    · rw [hd]
      have e0 : gt (List.map (fun i : Nat => ((i : Nat) : Int)) [pa r.key]) 0 = ((pa r.key : Nat) : Int) := rfl
      have el : (List.map (fun i : Nat => ((i : Nat) : Int)) [pa r.key]).length = 1 := rfl
      rw [e0, el, int_nf]
      exact tail
theorem p_firthlaw11_TreeFinds {Γ : Gh} {A : Option Addr} {c : Nat} {list : List Rec} (hs : Sl recT Γ A list) (hc : list.length ≤ c) {A2 : Option Addr} {c2 : Nat} (r_ : Rec) (hr : Rec.fits Γ A2 c2 r_) (hb : bkL Rec.bk list ≤ 1048576) (hb2 : Rec.bk r_ ≤ 1048576) : m_firthlaw11_TreeFinds list r_ = some true :=
  finds_law (sl_recOk hs) (recs_len hb) (fits_recOk hr)

/-! ### TreeParts -/
theorem cnt_split {α : Type} (P Q R : α → Bool) (hR : ∀ r, R r = (P r || Q r)) (hd : ∀ r, (P r && Q r) = false) : ∀ l : List α, (l.filter R).length = (l.filter P).length + (l.filter Q).length
  | [] => rfl
  | x :: l => by
    have ih := cnt_split P Q R hR hd l
    have h1 := hR x
    have h2 := hd x
    rw [List.filter_cons, List.filter_cons, List.filter_cons, h1]
    cases hp : P x <;> cases hq : Q x
    · simpa using ih
    · simp [ih]; omega
    · simp [ih]; omega
    · rw [hp, hq] at h2; cases h2
def cA (all : List Rec) (p : Nat) : Nat := (all.filter (fun r => decide (pa r.key < p))).length
def cB (all : List Rec) (p q : Nat) : Nat := (all.filter (fun r => decide (pa r.key = p) && decide (pb r.key < q))).length
theorem cB_step (all : List Rec) (p q : Nat) : cB all p (q + 1) = cB all p q + (all.filter (inP [((p : Nat) : Int), ((q : Nat) : Int)])).length := by
  unfold cB
  refine cnt_split _ _ _ (fun r => ?_) (fun r => ?_) all
  · show _ = (_ || (((p : Nat) : Int) == ((pa r.key : Nat) : Int) && ((q : Nat) : Int) == ((pb r.key : Nat) : Int)))
    rw [Bool.eq_iff_iff]
    simp only [Bool.and_eq_true, Bool.or_eq_true, decide_eq_true_eq, beq_iff_eq]
    omega
  · show (_ && (((p : Nat) : Int) == ((pa r.key : Nat) : Int) && ((q : Nat) : Int) == ((pb r.key : Nat) : Int))) = false
    rw [Bool.eq_false_iff]
    simp only [ne_eq, Bool.and_eq_true, decide_eq_true_eq, beq_iff_eq]
    omega
theorem cB_end (all : List Rec) (p : Nat) : (all.filter (inP [((p : Nat) : Int)])).length = cB all p 16 := by
  unfold cB
  congr 1
  refine List.filter_congr fun r _ => ?_
  show (((p : Nat) : Int) == ((pa r.key : Nat) : Int)) = _
  have := pb_lt r.key
  rw [Bool.eq_iff_iff]
  simp only [Bool.and_eq_true, decide_eq_true_eq, beq_iff_eq]
  omega
theorem cA_step (all : List Rec) (p : Nat) : cA all (p + 1) = cA all p + cB all p 16 := by
  rw [← cB_end]
  unfold cA
  refine cnt_split _ _ _ (fun r => ?_) (fun r => ?_) all
  · show _ = (_ || (((p : Nat) : Int) == ((pa r.key : Nat) : Int)))
    rw [Bool.eq_iff_iff]
    simp only [Bool.or_eq_true, decide_eq_true_eq, beq_iff_eq]
    omega
  · show (_ && (((p : Nat) : Int) == ((pa r.key : Nat) : Int))) = false
    rw [Bool.eq_false_iff]
    simp only [ne_eq, Bool.and_eq_true, decide_eq_true_eq, beq_iff_eq]
    omega
theorem cA_end (all : List Rec) : cA all 16 = all.length := by
  unfold cA
  rw [List.filter_eq_self.2]
  intro r _
  exact decide_eq_true (pa_lt _)
theorem cB0 (all : List Rec) (p : Nat) : cB all p 0 = 0 := by
  unfold cB
  rw [List.filter_eq_nil_iff.2 (fun r _ => by simp)]; rfl
theorem cA0 (all : List Rec) : cA all 0 = 0 := by
  unfold cA
  rw [List.filter_eq_nil_iff.2 (fun r _ => by simp)]; rfl
theorem cB_le (all : List Rec) (p q : Nat) : cB all p q ≤ all.length := List.length_filter_le _ _
theorem cA_le (all : List Rec) (p : Nat) : cA all p ≤ all.length := List.length_filter_le _ _
theorem hs2_0 {all : List Rec} {a b : Int} (h : (all.filter (inP [a, b])).length = 0) : Hs all [a, b] = 0 := by
  show hs2 all a b = 0
  unfold hs2
  rw [List.eq_nil_of_length_eq_zero h]; rfl
theorem recs_at {o : OTree} {all : List Rec} (hG : Good o all) (hn : all.length ≤ 4194304) {path : List Int} (hp : okP path = true) : m_tree_Tree_Recs o path = some (all.filter (inP path)) := by
  rw [e_Recs hG (by rw [lim_v]; omega), hp, cond_true]
theorem recs_no {o : OTree} {all : List Rec} (hG : Good o all) (hn : all.length ≤ 4194304) {path : List Int} (hp : okP path = false) : m_tree_Tree_Recs o path = some [] := by
  rw [e_Recs hG (by rw [lim_v]; omega), hp, cond_false]
theorem parts_law {list : List Rec} (hok : ∀ r ∈ list, RecOk r) (hl : list.length ≤ 1048576) : m_firthlaw11_TreeParts list = some true := by
  unfold m_firthlaw11_TreeParts
  rw [awake11, Option.bind_some, Bool.not_true, cond_false]
  obtain ⟨o1, h1, h2⟩ := e_built hok (by rw [lim_v]; omega)
  have hn := allOf_len list
  rw [h1, Option.bind_some]
  generalize allOf list = L at *
  simp only [Bool.not_true, cond_false, Option.bind_some]
  have hL : L.length ≤ 4194304 := by omega
  refine forU_run (fun p (s : Int × OTree) => s.1 = ((cA L p : Nat) : Int) ∧ Good s.2 L) (fun s hI => ?_) (fun f p s hp hI hf => ?_) ⟨by rw [cA0]; rfl, h2⟩
  · obtain ⟨n, o⟩ := s
    obtain ⟨e, hG⟩ := hI
    simp only at e hG ⊢
    rw [cA_end] at e
    subst e
    rw [beq_self_eq_true, cond_true, recs_all hG hL, Option.bind_some, beq_self_eq_true, cond_true, recs_no hG hL rfl, Option.bind_some, show (((([] : List Rec).length : Nat) : Int) == 0) = true from rfl, cond_true, recs_no hG hL rfl, Option.bind_some, show (((([] : List Rec).length : Nat) : Int) == 0) = true from rfl, cond_true]
    obtain ⟨r1, e1, v1, g1⟩ := e_TKids hL hG [1, 2]
    rw [e1, Option.bind_some, v1]
    have hk : kidsV L [1, 2] = [] := by
      unfold kidsV
      rw [show (okP [1, 2] && decide (([1, 2] : List Int).length ≤ 1)) = false from rfl]; rfl
    rw [hk, show (((([] : List Int).length : Nat) : Int) == 0) = true from rfl, cond_true]
    obtain ⟨o4, h7, h8⟩ := e_THash1 hL g1 [-1]
    rw [h7, Option.bind_some, Hs_bad rfl]; rfl
  · obtain ⟨n, o⟩ := s
    obtain ⟨e, hG⟩ := hI
    simp only at e hG
    subst e
    unfold m_firthlaw11_TreeParts_b32
    simp only
    refine forU_run (fun q (s : Int × OTree) => s.1 = ((cB L p q : Nat) : Int) ∧ Good s.2 L) (fun s hI => ?_) (fun f2 q s hq hI hf2 => ?_) ⟨by rw [cB0]; rfl, hG⟩
    · obtain ⟨m, o⟩ := s
      obtain ⟨e, hG⟩ := hI
      simp only at e hG ⊢
      subst e
      rw [recs_at hG hL (ok1 hp), Option.bind_some, cB_end, int_nf, cond_false]
      refine hf _ ⟨?_, hG⟩
      simp only
      have := cB_le L p 16
      have := cA_le L p
      rw [w64_i (by unfold I64; omega), cA_step]; omega
    · obtain ⟨m, o⟩ := s
      obtain ⟨e, hG⟩ := hI
      simp only at e hG
      subst e
      unfold m_firthlaw11_TreeParts_b37
      simp only
      rw [recs_at hG hL (ok2 hp hq), Option.bind_some]
      refine forI_run (fun _ _ => True) (fun _ _ => ?_) (fun f3 i s hi _ hf3 => ?_) trivial
      · obtain ⟨o4, h7, h8⟩ := e_THash1 hL hG [((p : Nat) : Int), ((q : Nat) : Int)]
        rw [h7, Option.bind_some]
        simp only
        have hcond : ((((Hs L [((p : Nat) : Int), ((q : Nat) : Int)]) == 0) != ((((L.filter (inP [((p : Nat) : Int), ((q : Nat) : Int)])).length : Nat) : Int) == 0)) && ((((L.filter (inP [((p : Nat) : Int), ((q : Nat) : Int)])).length : Nat) : Int) == 0)) = false := by
          by_cases h : (L.filter (inP [((p : Nat) : Int), ((q : Nat) : Int)])).length = 0
          · rw [hs2_0 h, h]; rfl
          · have : ((((L.filter (inP [((p : Nat) : Int), ((q : Nat) : Int)])).length : Nat) : Int) == 0) = false := by rw [beq_eq_false_iff_ne]; omega
            rw [this, Bool.and_false]
        rw [hcond, cond_false]
        refine hf2 _ ⟨?_, h8⟩
        simp only
        have := cB_le L p q
        have := cB_le L p (q + 1)
        have hst := cB_step L p q
        rw [w64_i (by unfold I64; omega), hst]; omega
      · unfold m_firthlaw11_TreeParts_b38
        have hm := (List.mem_filter.1 (gt_mem hi)).2
        have hz : [((pa (gt (L.filter (inP [((p : Nat) : Int), ((q : Nat) : Int)])) i).key : Nat) : Int), ((pb (gt (L.filter (inP [((p : Nat) : Int), ((q : Nat) : Int)])) i).key : Nat) : Int)] = [((p : Nat) : Int), ((q : Nat) : Int)] := by
          simp only [inP, Bool.and_eq_true, beq_iff_eq] at hm
          rw [← hm.1, ← hm.2]
        rw [e_Place, Option.bind_some, hz, e_Ints, Option.bind_some, Bool.not_true, cond_false]
        exact hf3 () trivial
theorem p_firthlaw11_TreeParts {Γ : Gh} {A : Option Addr} {c : Nat} {list : List Rec} (hs : Sl recT Γ A list) (hc : list.length ≤ c) (hb : bkL Rec.bk list ≤ 1048576) : m_firthlaw11_TreeParts list = some true := parts_law (sl_recOk hs) (recs_len hb)
end Fw
end Go.Proofs.Ytmmnpinpcgidnaa
