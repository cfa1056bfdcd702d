/- The laws of layer 11, as the printed models say them. No condition. -/
import Derived.Test.YtmmnpinpcgidnaaP13
namespace Go.Proofs.Ytmmnpinpcgidnaa
namespace Fw
set_option linter.unusedVariables false
set_option linter.unusedSimpArgs false
set_option linter.unusedSectionVars false

/-! ### what is handed in -/
theorem sl_versOk {Γ : Gh} {A : Option Addr} {l : List Ver} (h : Sl verT Γ A l) : VersOk l := by
  refine ⟨h.le, fun v hv => ?_⟩
  obtain ⟨i, hi, rfl⟩ := mem_gt hv
  obtain ⟨A2, c2, h2⟩ := h.verT_at i
  obtain ⟨⟨h3, h4, ⟨_, h5⟩, h6⟩, _⟩ := h2 hi
  refine ⟨⟨h3, h4⟩, h5.le, fun x hx => ?_, h6⟩
  obtain ⟨k, hk, rfl⟩ := mem_gt hx
  exact (h5.spanT_at hk).1.2.1
theorem fits_recOk {Γ : Gh} {A : Option Addr} {c : Nat} {r : Rec} (h : Rec.fits Γ A c r) : RecOk r := ⟨h.1, sl_versOk h.2.2⟩
theorem sl_recOk {Γ : Gh} {A : Option Addr} {l : List Rec} (h : Sl recT Γ A l) : ∀ r ∈ l, RecOk r := fun r hr => by
  obtain ⟨i, hi, rfl⟩ := mem_gt hr
  obtain ⟨A2, c2, h2⟩ := h.recT_at i
  exact fits_recOk (h2 hi).1
theorem rec_bk (r : Rec) : 1 ≤ Rec.bk r := by unfold Rec.bk; omega
theorem recs_len {l : List Rec} (h : bkL Rec.bk l ≤ 1048576) : l.length ≤ 1048576 := Nat.le_trans (bkL_len rec_bk l) h

/-! ### TreePlaces -/
theorem places_law (key : ByteArray) (a b : List Int) : m_firthlaw11_TreePlaces key a b = some true := by
  unfold m_firthlaw11_TreePlaces
  rw [awake11, Option.bind_some, cond_true, e_Place, Option.bind_some, e_rPlace, Option.bind_some, e_Ints, Option.bind_some, cond_true, e_Differ, Option.bind_some, e_rDiffer, Option.bind_some, e_Ints]
  rfl
theorem p_firthlaw11_TreePlaces {Γ : Gh} (key : ByteArray) (hkey : key.size ≤ lim) {A : Option Addr} {c : Nat} {a : List Int} (ha : Sl u64T Γ A a) (hac : a.length ≤ c) {A2 : Option Addr} {c2 : Nat} {b : List Int} (hb : Sl u64T Γ A2 b) (hbc : b.length ≤ c2) (m1 : bkL bkOne a ≤ 1048576) (m2 : bkL bkOne b ≤ 1048576) :
    m_firthlaw11_TreePlaces key a b = some true := places_law key a b

/-! ### TreeNews -/
theorem recs_all {o : OTree} {all : List Rec} (hG : Good o all) (hn : all.length ≤ 4194304) : m_tree_Tree_Recs o [] = some all := by
  rw [e_Recs hG (by rw [lim_v]; omega), show okP [] = true from rfl, cond_true, all_i]
theorem news_law {list : List Rec} (hok : ∀ r ∈ list, RecOk r) (hl : list.length ≤ 1048576) : m_firthlaw11_TreeNews list = some true := by
  unfold m_firthlaw11_TreeNews
  rw [awake11, Option.bind_some, Bool.not_true, cond_false]
  by_cases hr : ∀ r ∈ list, rr r = true
  · obtain ⟨o, h1, h2⟩ := e_New_t hok hr
    rw [h1, Option.bind_some]
    refine forI_run (fun _ _ => True) (fun _ _ => ?_) (fun f i s hi _ hf => ?_) trivial
    · obtain ⟨o2, h3, h4⟩ := e_built hok (by rw [lim_v]; omega)
      have hA : allOf list = addL list := by
        unfold allOf
        rw [List.filter_eq_self.2 hr]
      rw [hA] at h3 h4
      have hn : (addL list).length ≤ 4194304 := by have := addL_len list; omega
      rw [h3, Option.bind_some]
      simp only [Option.isNone_some, Bool.not_false, Bool.and_true]
      rw [show ((0 : Int) == 0) = true from rfl, show (true && true) = true from rfl, cond_true, Option.bind_some]
      obtain ⟨o3, h5, h6⟩ := e_THash1 hn h2 []
      rw [h5, Option.bind_some, Option.bind_some]
      obtain ⟨o4, h7, h8⟩ := e_THash1 hn h4 []
      rw [h7, Option.bind_some]
      simp only [beq_self_eq_true, cond_true]
      rw [recs_all h6 hn, Option.bind_some, e_SameRecs, Option.bind_some]
    · unfold m_firthlaw11_TreeNews_b1
      rw [e_rRec (hok _ (gt_mem hi)), Option.bind_some, hr _ (gt_mem hi), Bool.not_true, cond_false]
      exact hf () trivial
  · have hr2 : ∃ r ∈ list, rr r = false := by
      rcases Classical.em (∃ r ∈ list, rr r = false) with h | h
      · exact h
      · exact absurd (fun r hm => by
          cases hc : rr r with
          | true => rfl
          | false => exact absurd ⟨r, hm, hc⟩ h) hr
    rw [e_New_f hok hr2, Option.bind_some]
    refine forI_run (fun i _ => ∀ j, j < i → rr (gt list j) = true) (fun _ hI => ?_) (fun f i s hi hI hf => ?_) (fun j hj => absurd hj (Nat.not_lt_zero _))
    · obtain ⟨r, h1, h2⟩ := hr2
      obtain ⟨j, hj, rfl⟩ := mem_gt h1
      rw [hI j hj] at h2; cases h2
    · unfold m_firthlaw11_TreeNews_b1
      rw [e_rRec (hok _ (gt_mem hi)), Option.bind_some]
      cases hc : rr (gt list i) with
      | false => rfl
      | true =>
        rw [Bool.not_true, cond_false]
        refine hf () fun j hj => ?_
        by_cases e : j = i
        · subst e; exact hc
        · exact hI j (by omega)
theorem p_firthlaw11_TreeNews {Γ : Gh} {A : Option Addr} {c : Nat} {list : List Rec} (hs : Sl recT Γ A list) (hc : list.length ≤ c) (hb : bkL Rec.bk list ≤ 1048576) : m_firthlaw11_TreeNews list = some true := news_law (sl_recOk hs) (recs_len hb)

/-! ### TreeOrder -/
theorem rr_empty {r : Rec} (h : rr r = true) : rr ⟨r.key, []⟩ = true := by
  unfold rr at *
  rw [Bool.and_eq_true_iff] at h
  rw [h.1]; rfl
theorem ok_empty {r : Rec} (h : RecOk r) : RecOk ⟨r.key, []⟩ := ⟨h.key, Nat.zero_le _, fun v hv => absurd hv List.not_mem_nil⟩
theorem order_law {list ahead : List Rec} (turn : Int) (hok : ∀ r ∈ list, RecOk r) (hl : list.length ≤ 1048576) (hoka : ∀ r ∈ ahead, RecOk r) (hla : ahead.length ≤ 1048576) : m_firthlaw11_TreeOrder list ahead turn = some true := by
  unfold m_firthlaw11_TreeOrder
  rw [awake11, Option.bind_some, Bool.not_true, cond_false]
  obtain ⟨o1, h1, h2⟩ := e_built hok (by rw [lim_v]; omega)
  obtain ⟨o2, h3, h4⟩ := e_built hoka (by rw [lim_v]; omega)
  have hn1 := allOf_len list
  have hn2 := allOf_len ahead
  rw [h1, Option.bind_some]
  simp only [Bool.not_true, cond_false]
  rw [h3, Option.bind_some]
  simp only [Bool.not_true, cond_false, Option.bind_some]
  obtain ⟨o3, h5, h6⟩ := e_THash1 (by omega) h4 []
  rw [h5, Option.bind_some]
  generalize allOf ahead = A at *
  generalize allOf list = L at *
  refine forI_run (fun i (o : OTree) => ∃ cur, Good o cur ∧ cur.length ≤ A.length + i ∧ ∀ x ∈ cur, x ∈ A ∧ ∀ j, j < i → x.key ≠ (gt A j).key) (fun o hI => ?_) (fun f i o hi hI hf => ?_) ⟨A, h6, Nat.le_refl _, fun x hx => ⟨hx, fun j hj => absurd hj (Nat.not_lt_zero _)⟩⟩
  · have hE : Good o [] := by
      obtain ⟨cur, hg, _, hm⟩ := hI
      have : cur = [] := by
        cases cur with
        | nil => rfl
        | cons x l =>
          obtain ⟨a, b⟩ := hm x List.mem_cons_self
          obtain ⟨j, hj, he⟩ := mem_gt a
          exact absurd (by rw [he]) (b j hj)
      rw [this] at hg; exact hg
    have step : ∀ (idx : Nat → Nat) (k : OTree → Option Bool) (body : (OTree → Option Bool) → Nat → Rec → OTree → Option Bool), (∀ i, i < L.length → idx i < L.length) → (∀ j, j < L.length → ∃ i, i < L.length ∧ idx i = j) →
        (∀ f i o, i < L.length → body f i (gt L i) o = (m_tree_Tree_Set o (gt L (idx i))).bind fun z => bif z.2 != 0 then some false else f z.1) → (∀ o, Good o L → k o = some true) → forI body k 0 L o = some true := by
      intro idx k body hidx hsur hbody hk
      refine forI_run (fun i (o : OTree) => ∃ cur, Good o cur ∧ cur.length ≤ i ∧ ∀ x, x ∈ cur ↔ ∃ j, j < i ∧ x = gt L (idx j)) (fun o hI => ?_) (fun f i o hi hI hf => ?_) ⟨[], hE, Nat.le_refl _, fun x => ⟨fun h => absurd h List.not_mem_nil, fun ⟨j, hj, _⟩ => absurd hj (Nat.not_lt_zero _)⟩⟩
      · obtain ⟨cur, hg, hcl, hm⟩ := hI
        have : cur = L := sr_ext hg.srt h2.srt fun x => by
          rw [hm x]
          constructor
          · rintro ⟨j, hj, rfl⟩; exact gt_mem (hidx j hj)
          · intro hx
            obtain ⟨j, hj, rfl⟩ := mem_gt hx
            obtain ⟨i, hi, he⟩ := hsur j hj
            exact ⟨i, hi, by rw [he]⟩
        rw [this] at hg
        exact hk o hg
      · obtain ⟨cur, hg, hcl, hm⟩ := hI
        have hmem := gt_mem (hidx i hi)
        obtain ⟨a1, a2, a3⟩ := h2.ok _ hmem
        rw [hbody f i o hi, e_Set hg.len a1, Option.bind_some, a2, cond_true]
        show (bif (0 : Int) != 0 then some false else f (setP o (gt L (idx i)))) = some true
        rw [show ((0 : Int) != 0) = false from rfl, cond_false]
        refine hf _ ⟨withr cur (gt L (idx i)), hg.set a1 a2, by have := withr_len cur (gt L (idx i)); omega, fun x => ?_⟩
        rw [mem_withr]
        constructor
        · rintro (⟨rfl, _⟩ | ⟨hx, _⟩)
          · exact ⟨i, Nat.lt_succ_self _, rfl⟩
          · obtain ⟨j, hj, e⟩ := (hm x).1 hx
            exact ⟨j, by omega, e⟩
        · rintro ⟨j, hj, rfl⟩
          by_cases e : gt L (idx j) = gt L (idx i)
          · exact .inl ⟨e, a3⟩
          · refine .inr ⟨(hm _).2 ⟨j, ?_, rfl⟩, fun he => ?_⟩
            · rcases Nat.lt_or_ge j i with h | h
              · exact h
              · have : j = i := by omega
                subst this; exact absurd rfl e
            · have hj' : idx j < L.length := hidx j (by omega)
              exact e (sr_key h2.srt (gt_mem hj') hmem he)
    have tail : ∀ o, Good o L → (forU m_firthlaw11_TreeOrder_b7 (fun (s : OTree × OTree) => (m_tree_Tree_Hash s.2 []).bind fun z169 => (m_tree_Tree_Hash s.1 []).bind fun z178 => bif z169.2 == z178.2 then (m_tree_Tree_Recs z169.1 []).bind fun z189 => (m_tree_Tree_Recs z178.1 []).bind fun z199 => (m_firthref06_SameRecs z189 z199).bind fun z209 => some z209 else some false) 16 0 (o, o1)) = some true := by
      intro o hg
      refine forU_run (fun i (s : OTree × OTree) => Good s.1 L ∧ Good s.2 L) (fun s hI => ?_) (fun f i s hi hI hf => ?_) ⟨hg, h2⟩
      · obtain ⟨oa, e1, g1⟩ := e_THash1 (by omega) hI.2 []
        obtain ⟨ob, e2, g2⟩ := e_THash1 (by omega) hI.1 []
        rw [e1, Option.bind_some, e2, Option.bind_some]
        simp only [beq_self_eq_true, cond_true]
        rw [recs_all g1 (by omega), Option.bind_some, recs_all g2 (by omega), Option.bind_some, e_SameRecs]; rfl
      · obtain ⟨x, y⟩ := s
        obtain ⟨r1, e1, v1, g1⟩ := e_TKids (by omega) hI.2 [((i : Nat) : Int)]
        obtain ⟨r2, e2, v2, g2⟩ := e_TKids (by omega) hI.1 [((i : Nat) : Int)]
        unfold m_firthlaw11_TreeOrder_b7
        simp only at e1 e2 ⊢
        rw [e1, Option.bind_some, e2, Option.bind_some, v1, v2, e_Hashes, Option.bind_some, Bool.not_true, cond_false]
        exact hf _ ⟨g2, g1⟩
    cases ht : (turn.tmod 2) == 0 with
    | true =>
      refine step (fun i => i) _ _ (fun i hi => hi) (fun j hj => ⟨j, hj, rfl⟩) (fun f i o hi => ?_) (fun o hg => tail o hg)
      unfold m_firthlaw11_TreeOrder_b5 m_firthlaw11_TreeOrder_j6
      rw [ht, cond_true]
      simp only
      rw [chk_t (inb_nat hi), Int.toNat_natCast]
    | false =>
      refine step (fun i => L.length - 1 - i) _ _ (fun i hi => by omega) (fun j hj => ⟨L.length - 1 - j, by omega, by omega⟩) (fun f i o hi => ?_) (fun o hg => tail o hg)
      unfold m_firthlaw11_TreeOrder_b5 m_firthlaw11_TreeOrder_j6
      rw [ht, cond_false]
      simp only
      have e : w64 ((w64 (((L.length : Nat) : Int) - 1)) - ((i : Nat) : Int)) = ((L.length - 1 - i : Nat) : Int) := by
        rw [w64_i (x := ((L.length : Nat) : Int) - 1) (by unfold I64; omega), w64_i (by unfold I64; omega)]; omega
      rw [e, chk_t (inb_nat (by omega)), Int.toNat_natCast]
  · obtain ⟨cur, hg, hcl, hm⟩ := hI
    have hmem := gt_mem hi
    obtain ⟨a1, a2, a3⟩ := h4.ok _ hmem
    unfold m_firthlaw11_TreeOrder_b1
    rw [e_Set hg.len (ok_empty a1), Option.bind_some, rr_empty a2, cond_true]
    simp only
    rw [show ((0 : Int) != 0) = false from rfl, cond_false]
    have hg2 := hg.set (ok_empty a1) (rr_empty a2)
    have hwl := withr_len cur ⟨(gt A i).key, []⟩
    obtain ⟨r1, e1, v1, g1⟩ := e_TKids (by omega) hg2 []
    rw [e1, Option.bind_some]
    refine hf _ ⟨_, g1, by omega, fun x hx => ?_⟩
    rcases mem_withr.1 hx with ⟨_, h⟩ | ⟨h, hk⟩
    · exact absurd rfl h
    · obtain ⟨b1, b2⟩ := hm x h
      refine ⟨b1, fun j hj => ?_⟩
      by_cases e : j = i
      · subst e; exact hk
      · exact b2 j (by omega)
theorem p_firthlaw11_TreeOrder {Γ : Gh} {A : Option Addr} {c : Nat} {list : List Rec} (hs : Sl recT Γ A list) (hc : list.length ≤ c) {A2 : Option Addr} {c2 : Nat} {ahead : List Rec} (hs2 : Sl recT Γ A2 ahead) (hc2 : ahead.length ≤ c2) (turn : Int) (hturn : I64 turn) (hb : bkL Rec.bk list ≤ 1048576) (hb2 : bkL Rec.bk ahead ≤ 1048576) : m_firthlaw11_TreeOrder list ahead turn = some true :=
  order_law turn (sl_recOk hs) (recs_len hb) (sl_recOk hs2) (recs_len hb2)
end Fw
end Go.Proofs.Ytmmnpinpcgidnaa
