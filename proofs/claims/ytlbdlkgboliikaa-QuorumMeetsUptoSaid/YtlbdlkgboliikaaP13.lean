/- The plain law QuorumMeets. No condition. -/
import Derived.Test.YtlbdlkgboliikaaP12
namespace Go.Proofs.Ytlbdlkgboliikaa
namespace Fw
set_option linter.unusedVariables false
set_option linter.unusedSimpArgs false
set_option linter.unusedSectionVars false

/-- of right numbers -/
theorem meets_good {m : Dfirthlaw16_Meet} {old : List (List Ver)} {v : Ver} (hr1 : 1 ≤ m.n) (hr2 : m.n ≤ 8) (hw1 : 1 ≤ m.w_) (hw2 : m.w_ ≤ m.n) (hq1 : 1 ≤ m.r) (hq2 : m.r ≤ m.n) (hsum : m.n < m.w_ + m.r) (hone : r5RightOne v = true)
    (hv : VerOk v) (hold_ : ∀ l ∈ old, VersOk l) (hol : old.length ≤ lim) (htl : m.took.length ≤ lim) (hal : m.asked.length ≤ lim) :
    loopN (m_firthlaw16_QuorumMeets_b4 m old v) FU ([], [(⟨0, [v], []⟩ : Dfirthlaw16_Reply)], 1, (List.replicate 9 [])) = some true := by
  obtain ⟨N, hN⟩ : ∃ N : Nat, m.n = (N : Int) := ⟨m.n.toNat, by omega⟩
  have h8 : N ≤ 8 := by omega
  rw [lim_eq] at hol
  refine loopN_inv (fun _ => some true) (fun s => ∃ k : Nat, k ≤ N ∧ s = (upN k, allK old v k, ((k + 1 : Nat) : Int), heldK old k)) (fun s => N + 1 - s.2.2.1.toNat) (fun f s hs hf => ?_) ⟨0, Nat.zero_le _, ?_⟩ (by show N + 1 - (1 : Int).toNat < FU; unfold FU; omega)
  rotate_left
  · unfold heldK allK upN
    refine Prod.ext rfl (Prod.ext rfl (Prod.ext rfl ?_))
    apply List.ext_getElem
    · simp
    · intro j h1 h2
      simp only [List.getElem_replicate, List.getElem_map, List.getElem_range]
      rw [if_neg (by omega)]
  obtain ⟨k, hk, rfl⟩ := hs
  unfold m_firthlaw16_QuorumMeets_b4 m_firthlaw16_QuorumMeets_j5
  simp only
  rw [hN]
  by_cases hkN : k < N
  · rw [show decide (((k + 1 : Nat) : Int) ≤ (N : Int)) = true by rw [decide_eq_true_eq]; omega, cond_true, chk_t (by rw [upN_len, lim_eq, decide_eq_true_eq]; omega)]
    have e1 : w64 (((k + 1 : Nat) : Int) - 1) = ((k : Nat) : Int) := by rw [w64_i (by unfold I64; omega)]; omega
    rw [e1, w64_s (by omega)]
    simp only [Int.toNat_natCast]
    have hdk : decide (((k : Nat) : Int) < ((old.length : Nat) : Int)) = decide (k < old.length) := by rw [Bool.eq_iff_iff, decide_eq_true_eq, decide_eq_true_eq]; omega
    rw [hdk]
    have hnext : f (upN (k + 1), allK old v (k + 1), ((k + 1 + 1 : Nat) : Int), heldK old (k + 1)) = some true := hf _ ⟨k + 1, by omega, rfl⟩ (by show N + 1 - ((k + 1 + 1 : Nat) : Int).toNat < N + 1 - ((k + 1 : Nat) : Int).toNat; omega)
    rw [allK_succ, upN_succ] at hnext
    have hal2 : decide ((allK old v k).length + 1 ≤ lim) = true := by rw [allK_len, lim_eq, decide_eq_true_eq]; omega
    have hhk : hold old (k + 1) = bif decide (k < old.length) && r5Right (gt old k) then gt old k else [] := rfl
    have hself : ∀ hx : List (List Ver), hx = heldK old (k + 1) → chk (inb ((k + 1 : Nat) : Int) 9) (chk (decide ((allK old v k).length + 1 ≤ lim)) (f (upN k ++ [((k + 1 : Nat) : Int)], allK old v k ++ [(⟨0, gt hx (k + 1), []⟩ : Dfirthlaw16_Reply)], ((k + 1 + 1 : Nat) : Int), hx))) = some true := by
      rintro hx rfl
      rw [chk_t (inb9 (by omega)), chk_t hal2, heldK_gt, if_pos (by omega)]
      exact hnext
    by_cases hko : k < old.length
    · rw [decide_eq_true hko, inb_nat hko, chk_t (show imp true true = true from rfl), e_r5Right (hold_ _ (gt_mem hko)), gcall_s, Option.bind_some]
      rw [decide_eq_true hko] at hhk
      cases hr : r5Right (gt old k)
      · rw [hr] at hhk
        exact hself _ (heldK_same old hhk).symm
      · rw [hr] at hhk
        simp only [Bool.and_self, cond_true]
        rw [chk_t (show true = true from rfl), chk_t (inb9 (by omega))]
        refine hself _ ?_
        rw [← heldK_succ old (by omega), hhk]; rfl
    · rw [decide_eq_false hko] at hhk ⊢
      rw [chk_t (show imp false _ = true from rfl)]
      show chk (inb ((k + 1 : Nat) : Int) 9) _ = some true
      exact hself _ (heldK_same old hhk).symm
  · obtain rfl : k = N := by omega
    rw [show decide (((k + 1 : Nat) : Int) ≤ (k : Int)) = false by rw [decide_eq_false_iff_not]; omega, cond_false]
    have hlens : ∀ q ∈ allK old v k, q.vers.length ≤ 512 := fun q hq => by
      rcases allK_vers hq with h | ⟨j, h⟩
      · rw [h]; simp
      · rw [h]; exact (right_iff (hold_right old j)).1
    refine forI_inv (fun _ _ => some true) (fun i s => s = (((versOf ((allK old v k).take i)).length : Nat) : Int)) (fun s hs => ?_) (fun g i s hi hs hg => ?_) (by simp [versOf])
    rotate_left
    · unfold m_firthlaw16_QuorumMeets_b6
      subst hs
      have h1 := versOf_take hi
      have h2 := versOf_small (l := (allK old v k).take (i + 1)) (fun q hq => hlens q (List.mem_of_mem_take hq))
      rw [List.length_take, allK_len] at h2
      rw [h1, List.length_append] at h2
      refine hg _ ?_
      rw [h1, List.length_append, w64_i (by unfold I64; omega)]; omega
    · rw [List.take_length] at hs
      subst hs
      have hlim := versOf_small hlens
      rw [allK_len] at hlim
      rw [e_written (by rw [lim_eq]; omega), gcall_s, Option.bind_some]
      by_cases h512 : 512 < (versOf (allK old v k)).length
      · rw [show decide ((512 : Int) < (((versOf (allK old v k)).length : Nat) : Int)) = true by rw [decide_eq_true_eq]; omega]; rfl
      rw [show decide ((512 : Int) < (((versOf (allK old v k)).length : Nat) : Int)) = false by rw [decide_eq_false_iff_not]; omega]
      cases hwr : wrAll (versOf (allK old v k))
      · rfl
      have hU := wrAll_made hwr
      have hUn : (versOf (allK old v k)).length ≤ 512 := by omega
      have hvU : v ∈ versOf (allK old v k) := by simp [versOf, allK]
      have hUok : ∀ y ∈ versOf (allK old v k), VerOk y := fun y hy => by
        unfold versOf at hy
        obtain ⟨q, hq, h⟩ := List.mem_flatMap.1 hy
        rcases allK_vers hq with e | ⟨j, e⟩
        · rw [e, List.mem_singleton] at h; rw [h]; exact hv
        · rw [e] at h; exact (hold_ok hold_ j).2 _ h
      have hov := of_one hU hvU hone
      have hnd : (upN k).Nodup := qOk_nodup (qOk_up (need := 1) (by omega) h8 (by omega) (by omega))
      have h1k : 1 ≤ k := by omega
      simp only [Bool.not_false, Bool.not_true, Bool.or_self, cond_true, cond_false]
      rw [e_NewWrite _ (by rw [upN_len, lim_eq]; omega), e_NewRead _ (by rw [upN_len, lim_eq]; omega), qOk_up h1k h8 hw1 (by omega), qOk_up h1k h8 hq1 (by omega)]
      show forI (m_firthlaw16_QuorumMeets_b16 m v) _ 0 m.took ((⟨upN k, m.w_, []⟩ : AskB), heldK old k) = some true
      have hh0 : ∀ j, Of (versOf (allK old v k)) (gt (heldK old k) j) := fun j => by
        rw [heldK_gt]
        split
        · rename_i hj
          exact ⟨hold_right old j, fun y hy => allK_hold hj.1 hj.2.1 y hy⟩
        · exact of_nil _
      refine forI_inv (fun _ _ => some true) (fun i s => AckI (versOf (allK old v k)) v (upN k) m.w_ s.2 s.1) (fun s hI => ?_) (fun g i s hi hI hg => ?_) ⟨rfl, rfl, (RelG.new (β := Bool) hnd).g, fun n h => by simp [mget] at h, by simp [heldK], hh0⟩
      rotate_left
      · obtain ⟨x, held⟩ := s
        have hI' : AckI (versOf (allK old v k)) v (upN k) m.w_ held x := hI
        unfold m_firthlaw16_QuorumMeets_b16 m_firthlaw16_QuorumMeets_j17 m_firthlaw16_QuorumMeets_j19
        simp only
        rw [hN]
        by_cases hb : 1 ≤ gt m.took i ∧ gt m.took i ≤ (k : Int)
        · rw [show (decide (gt m.took i < 1) || decide ((k : Int) < gt m.took i)) = false by rw [Bool.or_eq_false_iff, decide_eq_false_iff_not, decide_eq_false_iff_not]; omega, cond_false, chk_t (inb9i hb.1 (by omega)),
            e_r5Merge (of_ok hUok (hI'.h _)) (of_ok hUok hov), Option.bind_some]
          obtain ⟨h1, h2⟩ := hI'.step hU hUn hov hnd (node := gt m.took i) (by omega)
          rw [h1, chk_t (inb9i hb.1 (by omega)), e_Ack, Option.bind_some]
          exact hg _ h2
        · rw [show (decide (gt m.took i < 1) || decide ((k : Int) < gt m.took i)) = true by rw [Bool.or_eq_true, decide_eq_true_eq, decide_eq_true_eq]; omega, cond_true]
          exact hg _ hI'
      · obtain ⟨x, held⟩ := s
        have hI' : AckI (versOf (allK old v k)) v (upN k) m.w_ held x := hI
        simp only
        refine forI_inv (fun _ _ => some true) (fun i s => AskedI (upN k) m.r held s) (fun y hA => ?_) (fun g i y hi hA hg => ?_) ⟨rfl, rfl, (RelG.new (β := List Ver) hnd).g, fun n u h => by simp [mget] at h⟩
        rotate_left
        · unfold m_firthlaw16_QuorumMeets_b23 m_firthlaw16_QuorumMeets_j24
          rw [hN]
          by_cases hb : 1 ≤ gt m.asked i ∧ gt m.asked i ≤ (k : Int)
          · rw [show (decide (1 ≤ gt m.asked i) && decide (gt m.asked i ≤ (k : Int))) = true by rw [Bool.and_eq_true, decide_eq_true_eq, decide_eq_true_eq]; omega, cond_true, chk_t (inb9i hb.1 (by omega)), e_Got _ (of_ok hUok (hI'.h _)), Option.bind_some]
            exact hg _ (hA.step hnd hI'.h _)
          · rw [show (decide (1 ≤ gt m.asked i) && decide (gt m.asked i ≤ (k : Int))) = false by rw [Bool.and_eq_false_iff, decide_eq_false_iff_not, decide_eq_false_iff_not]; omega, cond_false]
            exact hg _ hA
        · have hgo : GotOk y.got := fun n => of_ok hUok (hA.of hI'.h n)
          rw [e_DoneB, Option.bind_some, e_DoneV, gcall_s, Option.bind_some, hI'.n, hA.n]
          cases hd1 : decide (m.w_ ≤ ((x.got.length : Nat) : Int))
          · rfl
          cases hd2 : decide (m.r ≤ ((y.got.length : Nat) : Int))
          · rfl
          rw [decide_eq_true_eq] at hd1 hd2
          simp only [Bool.not_false, Bool.not_true, Bool.or_self, cond_true, cond_false]
          obtain ⟨hv1, hv2⟩ := e_Vers hgo
          rw [hv1, Option.bind_some, e_r5Behind, Option.bind_some, e_has, gcall_s, Option.bind_some]
          have hmeet : r5Behind (AskV.vers y) v.dot = true ∨ ((AskV.vers y).any (fun x => r5SameOne x v)) = true := by
            have h1 := hI'.g
            have h2 := hA.g
            obtain ⟨n, hn, hn1, hn2⟩ := two_meet (l := upN k) (fun n => (mget n x.got).isSome) (fun n => (mget n y.got).isSome) (by rw [upN_len]; omega)
            obtain ⟨_, _, hc, _⟩ := hA.put hU hUn hI'.h hn2
            obtain ⟨i1, _⟩ := vgo_of hU hUn (fun n => hA.of hI'.h n) y.list [] (of_nil _)
            rcases cov_cov hU (hI'.h _).s i1.s hc (hI'.m n hn1) with h | h
            · exact .inr (List.any_eq_true.2 ⟨v, h, sameOne_iff.2 rfl⟩)
            · exact .inl h
          have hyl : y.list.length ≤ lim := by rw [hA.l, upN_len, lim_eq]; omega
          have ht := meets_tail hU hUn hUok h8 hN hI'.h hA hv2
          rw [e_Behind hgo hyl, e_WaitsV hyl]
          rcases hmeet with h | h
          · rw [h]; exact ht
          · rw [h]
            cases r5Behind (AskV.vers y) v.dot <;> exact ht
theorem meets_law {m : Dfirthlaw16_Meet} {old : List (List Ver)} {v : Ver} (hv : VerOk v) (hold_ : ∀ l ∈ old, VersOk l) (hol : old.length ≤ lim) (htl : m.took.length ≤ lim) (hal : m.asked.length ≤ lim) : m_firthlaw16_QuorumMeets m old v = some true := by
  unfold m_firthlaw16_QuorumMeets
  rw [awake16, e_r5RightOne hv]
  simp only [Option.bind_some, gcall_s]
  cases h1 : (((((((((!true) || (decide (m.n < 1))) || (decide (8 < m.n))) || (decide (m.w_ < 1))) || (decide (m.n < m.w_))) || (decide (m.r < 1))) || (decide (m.n < m.r))) || (decide ((w64 (m.w_ + m.r)) ≤ m.n))))
  · cases h2 : r5RightOne v
    · rfl
    · simp only [Bool.or_eq_false_iff, decide_eq_false_iff_not] at h1
      obtain ⟨⟨⟨⟨⟨⟨⟨_, a1⟩, a2⟩, a3⟩, a4⟩, a5⟩, a6⟩, a7⟩ := h1
      rw [w64_i (by unfold I64; omega)] at a7
      exact meets_good (by omega) (by omega) (by omega) (by omega) (by omega) (by omega) (by omega) h2 hv hold_ hol htl hal
  · rfl
theorem p_firthlaw16_QuorumMeets {Γ : Gh} {Am3 : Option Addr} {cm3 : Nat} {Am4 : Option Addr} {cm4 : Nat} (m : Dfirthlaw16_Meet) (hm : Dfirthlaw16_Meet.fits Γ Am3 cm3 Am4 cm4 m) {Aold : Option Addr} {cold : Nat} {old : List (List Ver)} (hold_ : Sl (slT verT) Γ Aold old) (holdc : old.length ≤ cold)
    {Av2 : Option Addr} {cv2 : Nat} (v : Ver) (hv : Ver.fits Γ Av2 cv2 v) (m1 : Dfirthlaw16_Meet.bk m ≤ 1048576) (m2 : bkL (bkL Ver.bk) old ≤ 1048576) (m3 : Ver.bk v ≤ 1048576) :
    m_firthlaw16_QuorumMeets m old v = some true := by
  obtain ⟨h3, h4, ⟨_, h5⟩, h6⟩ := hv
  refine meets_law ⟨⟨h3, h4⟩, h5.le, fun x hx => ?_, h6⟩ (fun l hl => ?_) hold_.le ?_ ?_
  · obtain ⟨k, hk, rfl⟩ := mem_gt hx
    exact (h5.spanT_at hk).1.2.1
  · obtain ⟨i, hi, rfl⟩ := mem_gt hl
    obtain ⟨cs, ⟨_, _, _, _, h⟩, _⟩ := hold_.get i hi
    exact sl_versOk h
  · exact hm.2.2.2.1.2.le
  · exact hm.2.2.2.2.2.le
end Fw
end Go.Proofs.Ytlbdlkgboliikaa
