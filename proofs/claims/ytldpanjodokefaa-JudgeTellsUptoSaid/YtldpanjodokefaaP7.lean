/- What the program tells of a dot, sorted; its verdicts. No condition. -/
import Derived.Test.YtldpanjodokefaaP6
namespace Go.Proofs.Ytldpanjodokefaa
namespace Fw
set_option linter.unusedVariables false
set_option linter.unusedSimpArgs false
set_option linter.unusedSectionVars false
open Go.RowKit
noncomputable abbrev cmpD : Dot → Dot → Option Int := fun a b => m_judge_dots_sorted_1 a b
theorem ltm_kl (a b : Dot) : ltm cmpD a b = kl a b := by
  unfold ltm
  show (match m_judge_dots_sorted_1 a b with | some c => decide (c < 0) | none => false) = _
  rw [e_cmp]
  cases h : kl a b with
  | true => simp
  | false => by_cases h2 : kl b a = true <;> simp [h2]
theorem mem_insS {x y : Dot} {l : List Dot} : y ∈ insS (ltm cmpD) x l ↔ y = x ∨ y ∈ l := by
  rw [(insS_perm (ltm cmpD) x l).mem_iff, List.mem_cons]
theorem insS_cl {x : Dot} : ∀ {l : List Dot}, CL l → x ∉ l → CL (insS (ltm cmpD) x l)
  | [], _, _ => by simp [insS, CL]
  | y :: l, h, hx => by
    simp only [List.mem_cons, not_or] at hx
    obtain ⟨h1, h2⟩ := List.pairwise_cons.1 h
    unfold insS
    rw [ltm_kl]
    cases hk : kl y x with
    | true =>
      simp only [cond_true]
      refine List.pairwise_cons.2 ⟨fun z hz => ?_, insS_cl h2 hx.2⟩
      rcases mem_insS.1 hz with e | e
      · rw [e]; exact hk
      · exact h1 z e
    | false =>
      simp only [cond_false]
      have hxy : kl x y = true := by
        rcases kl_tri x y with q | q | q
        · exact q
        · exact absurd q hx.1
        · rw [q] at hk; cases hk
      refine List.pairwise_cons.2 ⟨fun z hz => ?_, h⟩
      rcases List.mem_cons.1 hz with e | e
      · rw [e]; exact hxy
      · exact kl_trans hxy (h1 z e)
theorem isort_cl : ∀ {l : List Dot}, l.Nodup → CL (isort (ltm cmpD) l)
  | [], _ => by simp [isort, CL]
  | x :: l, h => by
    rw [List.nodup_cons] at h
    exact insS_cl (isort_cl h.2) (fun hm => h.1 ((isort_perm _ _).mem_iff.1 hm))
theorem okS_cl : ∀ {l : List Dot}, CL l → okS cmpD l = true
  | [], _ => rfl
  | x :: l, h => by
    obtain ⟨h1, h2⟩ := List.pairwise_cons.1 h
    have hs : ∀ a b : Dot, (cmpD a b).isSome = true := fun a b => by show (m_judge_dots_sorted_1 a b).isSome = true; rw [e_cmp]; rfl
    unfold okS
    simp only [hs, ltm_kl, kl_irr, okS_cl h2, Bool.and_true, Bool.true_and, Bool.not_false, List.all_eq_true]
    intro y hy
    rw [h1 y hy, kl_asymm (h1 y hy)]; simp
theorem e_sorted {s : DS} (hs : CS s) (hn : s.length ≤ lim) : m_judge_dots_sorted s = some (kys s) := by
  unfold m_judge_dots_sorted
  have : decide (s.length ≤ lim) = true := decide_eq_true hn
  simp only [this, chk, cond_true]
  refine anyP_of fun ks hks => ?_
  have he : isort (ltm cmpD) ks = kys s := CL.ext (isort_cl (hks.nodup_iff.2 (CL.nodup hs))) hs fun x => by rw [(isort_perm _ _).mem_iff, hks.mem_iff]; rfl
  unfold m_sort0
  cases ks with
  | nil =>
    have : kys s = [] := (List.Perm.nil_eq hks).symm
    simp [this]
  | cons k ks =>
    simp only [List.isEmpty_cons, cond_false]
    unfold m_sort
    simp only [List.isEmpty_cons, Bool.not_false, chk, cond_true]
    show (bif okS cmpD (isort (ltm cmpD) (k :: ks)) then some (isort (ltm cmpD) (k :: ks)) else none) = _
    rw [he, okS_cl hs]; rfl
theorem bhS_len (l : Acts) (d : Dot) : (bhS l d).length ≤ (dts l).length := by
  have := nodup_len (CL.nodup (bhS_cs l d)) fun x hx => (mem_bhS.1 hx).dts
  simpa [kys] using this
theorem bhd_eq (l : Acts) (d : Dot) : bhd (trl l (bhS l)) d = bhS l d := by
  rw [bhd_trl]
  split
  · rfl
  · rename_i h
    rw [bhS_none]
    cases hf : fst l d with
    | none => rfl
    | some k => rw [hf] at h; simp at h
/-- what is behind a dot, by the program -/
theorem e_Behind {l : Acts} (h : okl l) {d : Dot} : m_judge_Behind_l0 l d = some (kys (bhS l d)) := by
  unfold m_judge_Behind_l0
  rw [e_try h.fine h.m]
  simp only [Option.bind_some]
  rw [show (mget d (trl l (bhS l)).behind).getD [] = bhS l d from bhd_eq l d, e_sorted (bhS_cs l d) (by have := bhS_len l d; have := h.d; rw [lim_eq]; omega)]
  rfl
/-! ### a vector's covering -/
def cov (v : List Int) (d : Dot) : Bool := ((decide (1 ≤ d.s)) && (decide (d.s ≤ ((v.length : Nat) : Int)))) && (decide (1 ≤ d.n)) && (decide (d.n ≤ (gt v ((w64 (d.s - 1)).toNat))))
theorem e_cov {v : List Int} (hv : v.length ≤ lim) {d : Dot} : m_vect_Covers v d = some (cov v d) := by
  unfold m_vect_Covers
  have : imp (((decide (1 ≤ d.s)) && (decide (d.s ≤ ((v.length : Nat) : Int)))) && (decide (1 ≤ d.n))) (inb (w64 (d.s - 1)) v.length) = true := by
    unfold imp
    cases hc : ((decide (1 ≤ d.s)) && (decide (d.s ≤ ((v.length : Nat) : Int)))) && (decide (1 ≤ d.n)) with
    | false => rfl
    | true =>
      have h1 := of_decide_eq_true (and_l (and_l hc)); have h2 := of_decide_eq_true (and_r (and_l hc))
      rw [lim_eq] at hv
      simp only [cond_true]
      rw [w64_id (by omega) (by omega)]
      simp only [inb, Bool.and_eq_true, decide_eq_true_eq]; omega
  simp only [this, chk, cond_true]; rfl
theorem e_covered {v : List Int} (hv : v.length ≤ lim) {d : Dot} : m_firthlaw23_covered v d = some (cov v d) := e_cov hv
theorem e_covers {v : List Int} (hv : v.length ≤ lim) {s : DS} : m_judge_covers v s = some ((kys s).all (cov v)) := by
  unfold m_judge_covers
  refine anyX_of fun l hl => ?_
  have key : ∀ l : DS, runX (m_judge_covers_b1 v) (fun _ => some true) l () = some ((kys l).all (cov v)) := by
    intro l
    induction l with
    | nil => rfl
    | cons p l ih =>
      unfold runX m_judge_covers_b1
      rw [e_cov hv]
      simp only [Option.bind_some]
      show _ = some ((p.1 :: kys l).all (cov v))
      rw [List.all_cons]
      cases cov v p.1 with
      | true => simp only [Bool.not_true, cond_false, Option.bind_some, Bool.true_and]; exact ih
      | false => rfl
  rw [key]
  congr 1
  rw [Bool.eq_iff_iff, List.all_eq_true, List.all_eq_true]
  exact ⟨fun h x hx => h x ((hl.map (·.1)).mem_iff.2 hx), fun h x hx => h x ((hl.map (·.1)).mem_iff.1 hx)⟩
theorem e_Equal {a b : DS} (ha : CS a) (hb : CS b) : m_maps_Equal_judge_dots_judge_dots_api_Dot_bool a b = some (decide (a = b)) := by
  unfold m_maps_Equal_judge_dots_judge_dots_api_Dot_bool
  by_cases hl : a.length = b.length
  · have : ((((a.length : Nat) : Int)) != ((b.length : Nat) : Int)) = false := by simp [hl]
    simp only [this, cond_false]
    refine anyX_of fun l hp => ?_
    have key : ∀ l : DS, runX (m_maps_Equal_judge_dots_judge_dots_api_Dot_bool_b1 b) (fun _ => some true) l () = some ((kys l).all fun x => decide (x ∈ kys b)) := by
      intro l
      induction l with
      | nil => rfl
      | cons p l ih =>
        have hst : m_maps_Equal_judge_dots_judge_dots_api_Dot_bool_b1 b () p = bif decide (p.1 ∈ kys b) then some (.inl ()) else some (.inr (some false)) := by
          unfold m_maps_Equal_judge_dots_judge_dots_api_Dot_bool_b1
          simp only [mget_kys']
          cases decide (p.1 ∈ kys b) <;> rfl
        unfold runX
        rw [hst]
        show _ = some ((p.1 :: kys l).all fun x => decide (x ∈ kys b))
        rw [List.all_cons]
        cases decide (p.1 ∈ kys b) with
        | true => simp only [cond_true, Option.bind_some, Bool.true_and]; exact ih
        | false => rfl
    rw [key]
    congr 1
    rw [Bool.eq_iff_iff, List.all_eq_true, decide_eq_true_eq]
    constructor
    · intro h
      have hsub : ∀ x ∈ kys a, x ∈ kys b := fun x hx => of_decide_eq_true (h x ((hp.map (·.1)).mem_iff.2 hx))
      refine CS.ext ha hb fun x => ⟨hsub x, fun hx => ?_⟩
      apply Classical.byContradiction
      intro hn
      have h3 : (x :: kys a).length ≤ (kys b).length := nodup_len (List.nodup_cons.2 ⟨hn, CL.nodup ha⟩) fun y hy => by
        rcases List.mem_cons.1 hy with e | e
        · rw [e]; exact hx
        · exact hsub y e
      simp only [kys, List.length_cons, List.length_map] at h3
      omega
    · intro h x hx
      subst h
      exact decide_eq_true ((hp.map (·.1)).mem_iff.1 hx)
  · have : ((((a.length : Nat) : Int)) != ((b.length : Nat) : Int)) = true := by simp; omega
    simp only [this, cond_true]
    have : ¬ a = b := fun e => hl (by rw [e])
    simp [this]
/-! ### the greatest -/
def kk (l : Acts) (key : ByteArray) (d : Dot) : Bool := match fst l d with
  | some k => (gt l k).key == key
  | none => false
theorem e_greatest {l : Acts} {h : DS} {key : ByteArray} : ∃ g, m_judge_trial_greatest_l1 (trl l (bhS l)) h key = some g ∧ CS g ∧ ∀ x, x ∈ kys g ↔ x ∈ kys h ∧ kk l key x = true ∧ ¬ ∃ e ∈ kys h, kk l key e = true ∧ Bh l e x := by
  have step : ∀ (p u : DS) (e : Dot × Unit), CS p → m_judge_trial_greatest_l1_b1 (trl l (bhS l)) key (p, u) e = some (.inl (bif kk l key e.1 then (un p (bhS l e.1), sput kl e.1 u) else (p, u))) := by
    intro p u e hp
    unfold m_judge_trial_greatest_l1_b1
    have hm : mget e.1 (trl l (bhS l)).first = (fst l e.1).map fun k : Nat => (k : Int) := mget_firsts
    simp only [hm]
    have hc : imp ((fst l e.1).map fun k : Nat => (k : Int)).isSome (inb (((fst l e.1).map fun k : Nat => (k : Int)).getD 0) (trl l (bhS l)).list.length) = true := by
      cases hf : fst l e.1 with
      | none => rfl
      | some k =>
        have := (fst_some hf).1
        simp only [Option.map_some, Option.isSome_some, imp, cond_true, Option.getD_some]
        exact inb_nat this
    rw [hc]
    simp only [chk, cond_true]
    have hkk : (((fst l e.1).map fun k : Nat => (k : Int)).isSome && ((gt (trl l (bhS l)).list ((((fst l e.1).map fun k : Nat => (k : Int)).getD 0).toNat)).key == key)) = kk l key e.1 := by
      unfold kk
      cases hf : fst l e.1 with
      | none => rfl
      | some k => simp [trl]
    rw [hkk]
    cases kk l key e.1 with
    | false => rfl
    | true =>
      simp only [cond_true]
      rw [show (mget e.1 (trl l (bhS l)).behind).getD [] = bhS l e.1 from bhd_eq l e.1, e_join hp]; rfl
  have loop : ∀ (K : DS × DS → Option DS) (L p u : DS), CS p → CS u → ∃ p' u', runX (m_judge_trial_greatest_l1_b1 (trl l (bhS l)) key) K L (p, u) = K (p', u') ∧ CS p' ∧ CS u' ∧ (∀ x, x ∈ kys p' ↔ x ∈ kys p ∨ ∃ e ∈ kys L, kk l key e = true ∧ Bh l e x) ∧ (∀ x, x ∈ kys u' ↔ x ∈ kys u ∨ (x ∈ kys L ∧ kk l key x = true)) := by
    intro K L
    induction L with
    | nil => intro p u hp hu; exact ⟨p, u, rfl, hp, hu, by simp [kys], by simp [kys]⟩
    | cons e L ih =>
      intro p u hp hu
      unfold runX
      rw [step p u e hp]
      simp only [Option.bind_some]
      cases hk : kk l key e.1 with
      | false =>
        simp only [cond_false]
        obtain ⟨p', u', h1, h2, h3, h4, h5⟩ := ih p u hp hu
        refine ⟨p', u', h1, h2, h3, fun x => ?_, fun x => ?_⟩
        · rw [h4]
          show _ ↔ _ ∨ ∃ e' ∈ e.1 :: kys L, _
          simp [hk]
        · rw [h5]
          show _ ↔ _ ∨ (x ∈ e.1 :: kys L ∧ _)
          rw [List.mem_cons]
          constructor
          · rintro (q | q)
            · exact .inl q
            · exact .inr ⟨.inr q.1, q.2⟩
          · rintro (q | ⟨q | q, q2⟩)
            · exact .inl q
            · subst q; rw [hk] at q2; cases q2
            · exact .inr ⟨q, q2⟩
      | true =>
        simp only [cond_true]
        obtain ⟨p', u', h1, h2, h3, h4, h5⟩ := ih _ _ (un_cs (t := bhS l e.1) hp) (sput_cs (x := e.1) hu)
        refine ⟨p', u', h1, h2, h3, fun x => ?_, fun x => ?_⟩
        · rw [h4, mem_un, mem_bhS]
          show _ ↔ _ ∨ ∃ e' ∈ e.1 :: kys L, _
          simp only [List.mem_cons, exists_eq_or_imp, hk, true_and]
          constructor
          · rintro ((q | q) | q)
            · exact .inl q
            · exact .inr (.inl q)
            · exact .inr (.inr q)
          · rintro (q | q | q)
            · exact .inl (.inl q)
            · exact .inl (.inr q)
            · exact .inr q
        · rw [h5, mem_sput]
          show _ ↔ _ ∨ (x ∈ e.1 :: kys L ∧ _)
          rw [List.mem_cons]
          constructor
          · rintro ((q | q) | q)
            · exact .inr ⟨.inl q, by rw [q]; exact hk⟩
            · exact .inl q
            · exact .inr ⟨.inr q.1, q.2⟩
          · rintro (q | ⟨q | q, q2⟩)
            · exact .inl (.inr q)
            · exact .inl (.inl q)
            · exact .inr ⟨q, q2⟩
  have loop2 : ∀ (p L o : DS), CS o → ∃ o', runX (m_judge_trial_greatest_l1_b2 p) (fun m46 => some m46) L o = some o' ∧ CS o' ∧ ∀ x, x ∈ kys o' ↔ x ∈ kys o ∨ (x ∈ kys L ∧ x ∉ kys p) := by
    intro p L
    induction L with
    | nil => intro o ho; exact ⟨o, rfl, ho, by simp [kys]⟩
    | cons e L ih =>
      intro o ho
      unfold runX m_judge_trial_greatest_l1_b2
      rw [mget_kys']
      cases hk : decide (e.1 ∈ kys p) with
      | true =>
        have hk := of_decide_eq_true hk
        simp only [Bool.not_true, cond_false, Option.bind_some]
        obtain ⟨o', h1, h2, h3⟩ := ih o ho
        refine ⟨o', h1, h2, fun x => ?_⟩
        rw [h3]
        show _ ↔ _ ∨ (x ∈ e.1 :: kys L ∧ _)
        rw [List.mem_cons]
        constructor
        · rintro (q | q)
          · exact .inl q
          · exact .inr ⟨.inr q.1, q.2⟩
        · rintro (q | ⟨q | q, q2⟩)
          · exact .inl q
          · subst q; exact absurd hk q2
          · exact .inr ⟨q, q2⟩
      | false =>
        have hk := of_decide_eq_false hk
        simp only [Bool.not_false, cond_true, Option.bind_some]
        obtain ⟨o', h1, h2, h3⟩ := ih _ (sput_cs (x := e.1) ho)
        refine ⟨o', h1, h2, fun x => ?_⟩
        rw [h3, mem_sput]
        show _ ↔ _ ∨ (x ∈ e.1 :: kys L ∧ _)
        rw [List.mem_cons]
        constructor
        · rintro ((q | q) | q)
          · exact .inr ⟨.inl q, by rw [q]; exact hk⟩
          · exact .inl q
          · exact .inr ⟨.inr q.1, q.2⟩
        · rintro (q | ⟨q | q, q2⟩)
          · exact .inl (.inr q)
          · exact .inl (.inl q)
          · exact .inr ⟨q, q2⟩
  obtain ⟨p0, u0, _, hp0, hu0, hp1, hu1⟩ := loop (fun s => some s.1) h [] [] cs_nil cs_nil
  obtain ⟨g, hg, hgc, hgm⟩ := loop2 p0 u0 [] cs_nil
  refine ⟨g, ?_, hgc, fun x => ?_⟩
  · unfold m_judge_trial_greatest_l1
    refine anyX_of fun L hL => ?_
    obtain ⟨p', u', h1, h2, h3, h4, h5⟩ := loop (fun (m18, m21) => anyX (m_judge_trial_greatest_l1_b2 m18) (fun m46 => some m46) m21 []) L [] [] cs_nil cs_nil
    rw [h1]
    have hmem : ∀ x, x ∈ kys L ↔ x ∈ kys h := fun x => (hL.map (·.1)).mem_iff
    have e1 : p' = p0 := CS.ext h2 hp0 fun x => by rw [h4, hp1]; simp only [hmem]
    have e2 : u' = u0 := CS.ext h3 hu0 fun x => by rw [h5, hu1]; simp only [hmem]
    subst e1 e2
    refine anyX_of fun L2 hL2 => ?_
    obtain ⟨o', h6, h7, h8⟩ := loop2 p' L2 [] cs_nil
    rw [h6]
    congr 1
    refine CS.ext h7 hgc fun x => ?_
    rw [h8, hgm, show x ∈ kys L2 ↔ x ∈ kys u' from (hL2.map (·.1)).mem_iff]
  · rw [hgm, hp1, hu1]
    simp only [kys, List.map_nil, List.not_mem_nil, false_or]
    constructor
    · rintro ⟨⟨h1, h2⟩, h3⟩; exact ⟨h1, h2, h3⟩
    · rintro ⟨h1, h2, h3⟩; exact ⟨⟨h1, h2⟩, h3⟩
end Fw
end Go.Proofs.Ytldpanjodokefaa
