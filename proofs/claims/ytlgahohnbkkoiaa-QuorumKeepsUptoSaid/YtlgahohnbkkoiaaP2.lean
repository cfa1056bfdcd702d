/- QuorumKeeps: what comes of the walk that writes over what was handed in and what was told. No condition. -/
import Derived.Test.YtlgahohnbkkoiaaP1
namespace Go.Proofs.Ytlgahohnbkkoiaa
namespace Fw
set_option linter.unusedVariables false
set_option linter.unusedSimpArgs false
set_option linter.unusedSectionVars false

/-! ### merging with nothing -/
theorem merge_right0 {l : List Ver} (h : r5Right l = true) : r5Merge l [] = (l, 0) := by rw [merge_nil, h]; rfl
theorem nil_merge {l : List Ver} (h : r5Right l = true) : r5Merge [] l = (l, 0) := by
  have h0 : r5Right [] = true := by decide
  unfold r5Merge
  rw [h0, h]
  simp only [Bool.not_true, Bool.or_self, cond_false]
  have ht : r5Twin [] l = false := by
    cases h2 : r5Twin [] l
    · rfl
    · obtain ⟨x, hx, _⟩ := r5Twin_iff.1 h2; cases hx
  obtain ⟨h1, _, h3⟩ := right_iff h
  have hf : r5Fold l [] (r5Fold [] l []) = l := by
    show r5Fold l [] [] = l
    refine srt_ext (fold_srt (by simp [Srt])) h3 fun y => ⟨fun hy => ?_, fun hy => ?_⟩
    · rcases fold_sub hy with h | ⟨h, _⟩
      · cases h
      · exact h
    · exact fold_new (fun p hp q hq hd => srt_inj h3 hp hq hd) (by simp) hy rfl
  rw [ht, cond_false, hf]
  have hd : decide ((512 : Int) < (l.length : Int)) = false := by rw [decide_eq_false_iff_not]; omega
  rw [hd]; rfl
theorem vok0 : VersOk [] := ⟨Nat.zero_le _, fun v h => absurd h List.not_mem_nil⟩

/-! ### reading -/
theorem e_NewR : m_quorum_NewRead [2, 1] 1 = some (some ⟨[2, 1], 1, []⟩, 0) := by decide
theorem e_NewS : m_quorum_NewScan [2, 1] 1 = some (some ⟨[2, 1], 1, []⟩, 0) := by rfl
theorem e_C2 : m_slices_Contains_int_int [2, 1] 2 = some true := by decide
theorem e_C7 : m_slices_Contains_int_int [2, 1] 7 = some false := by decide
theorem e_Got2 {l : List Ver} (hl : VersOk l) (hr : r5Right l = true) : m_quorum_Read_Got ⟨[2, 1], 1, []⟩ 2 l = some (⟨[2, 1], 1, [(2, l)]⟩, true) := by
  unfold m_quorum_Read_Got m_quorum_asking_api_Ver_count
  rw [e_Merge hl vok0, merge_eq, merge_right0 hr, Option.bind_some]
  simp only [e_C2]
  rfl
theorem e_Got7 (got : List (Int × List Ver)) (hg : mget 7 got = none) : m_quorum_Read_Got ⟨[2, 1], 1, got⟩ 7 [] = some (⟨[2, 1], 1, got⟩, false) := by
  have h0 : r5Right [] = true := by decide
  unfold m_quorum_Read_Got m_quorum_asking_api_Ver_count
  rw [e_Merge vok0 vok0, merge_eq, merge_right0 h0, Option.bind_some]
  simp only [e_C7, hg]
  rfl
theorem e_VersQ {l : List Ver} (hl : VersOk l) (hr : r5Right l = true) : m_quorum_Read_Vers_l1 ⟨[2, 1], 1, [(2, l)]⟩ = some l := by
  have g2 : mget (2 : Int) [((2 : Int), l)] = some l := rfl
  have g1 : mget (1 : Int) [((2 : Int), l)] = none := rfl
  show m_quorum_Read_Vers_l1_b4 ⟨[2, 1], 1, [(2, l)]⟩ (fun out => m_quorum_Read_Vers_l1_b4 ⟨[2, 1], 1, [(2, l)]⟩ (fun out => some out) 1 1 out) 0 2 [] = _
  unfold m_quorum_Read_Vers_l1_b4 m_quorum_Read_Vers_l1_j5
  simp only [g2, g1, Option.getD_some, Option.getD_none]
  rw [e_Merge vok0 hl, merge_eq, nil_merge hr, Option.bind_some]
  simp only [beq_self_eq_true, cond_true]
  rw [e_Merge hl vok0, merge_eq, merge_right0 hr, Option.bind_some]
  rfl

/-! ### what is taken of nothing -/
structure NR (L : List Rec) : Prop where
  ni : NI L
  rr : ∀ r ∈ L, rr r = true
theorem rr_of {r : Rec} (h : rr r = true) {v : List Ver} (hv : r5Right v = true) : rr ⟨r.key, v⟩ = true := by
  unfold Fw.rr at *
  rw [Bool.and_eq_true] at h ⊢
  exact ⟨h.1, hv⟩
theorem NR.step {L : List Rec} (h : NR L) {r : Rec} (hr : RecOk r) (hrr : Fw.rr r = true) : NR (stepN L r) := by
  refine ⟨h.ni.step hr, fun x hx => ?_⟩
  unfold stepN at hx
  cases hc : (r5Merge (gvR L r.key) r.vers).2 == 0 with
  | false => rw [hc, cond_false] at hx; exact h.rr x hx
  | true =>
    rw [hc, cond_true] at hx
    rcases foldl_mem (l := [_]) (acc := L) hx with hx | hx
    · rw [List.mem_singleton.1 hx]
      exact rr_of hrr (merged (by simpa using hc)).2.1
    · exact h.rr x hx
theorem nowL_nr : ∀ (n : Nat) (T : List Rec), T.length = n → (∀ r ∈ T, RecOk r) → (∀ r ∈ T, rr r = true) → NR (nowL [] T)
  | 0, T, hn, _, _ => by
    have : T = [] := List.eq_nil_of_length_eq_zero hn
    subst this
    exact ⟨⟨List.Pairwise.nil, fun r h => absurd h List.not_mem_nil, fun r h => absurd h List.not_mem_nil⟩, fun r h => absurd h List.not_mem_nil⟩
  | n + 1, T, hn, hT, hR => by
    rcases List.eq_nil_or_concat T with rfl | ⟨T', r, rfl⟩
    · cases hn
    · rw [List.concat_eq_append] at *
      rw [List.length_append, List.length_singleton] at hn
      have h1 := nowL_nr n T' (by omega) (fun x hx => hT x (List.mem_append_left _ hx)) (fun x hx => hR x (List.mem_append_left _ hx))
      rw [nowL_snoc]
      exact h1.step (hT r (List.mem_append_right _ (List.mem_singleton.2 rfl))) (hR r (List.mem_append_right _ (List.mem_singleton.2 rfl)))
theorem ni0 : NI [] := ⟨List.Pairwise.nil, fun r h => absurd h List.not_mem_nil, fun r h => absurd h List.not_mem_nil⟩
theorem rTake0 {T : List Rec} (hok : ∀ r ∈ T, RecOk r) (hr : ∀ r ∈ T, rr r = true) (hl : T.length ≤ 1048576) : m_firthref14_Take [] T = some (nowL [] T, 0) := by
  rw [e_rTakeG (fun r h => absurd h List.not_mem_nil) (fun r h => absurd h List.not_mem_nil) (Nat.zero_le _) hok hr (by omega)]
  have hN := (nowL_nr _ T rfl hok hr).ni
  rw [show addL [] = [] from rfl]
  congr 2
  refine List.filter_eq_self.2 fun x hx => ?_
  cases hs : r5Same x.vers (gvR [] x.key) with
  | false => rfl
  | true => exact absurd (r5Same_iff.1 hs) (hN.ve x hx)
theorem cTake0 {T : List Rec} (hok : ∀ r ∈ T, RecOk r) (hr : ∀ r ∈ T, rr r = true) (hl : T.length ≤ 1048576) : m_mend_Take [] T = some (nowL [] T, 0) := by
  obtain ⟨z, h1, h2⟩ := e_TakeB (A := []) (T := T) (fun r h => absurd h List.not_mem_nil) (Nat.zero_le _) hok hl
  rw [rTake0 hok hr hl] at h2
  rw [h1, h2]
theorem cTakeN {O : List Rec} (hO : NR O) (hl : O.length ≤ 1048576) : m_mend_Take O [] = some ([], 0) := by
  obtain ⟨z, h1, h2⟩ := e_TakeB (A := O) (T := []) hO.ni.ok hl (fun r h => absurd h List.not_mem_nil) (Nat.zero_le _)
  rw [e_rTakeG hO.ni.ok hO.rr (by omega) (fun r h => absurd h List.not_mem_nil) (fun r h => absurd h List.not_mem_nil) (Nat.zero_le _)] at h2
  rw [h1, ← h2]
  congr 2
  rw [addL_self hO.ni.sr hO.ni.ve]
  show (O.filter _) = []
  refine List.filter_eq_nil_iff.2 fun x hx => ?_
  have : r5Same x.vers (gvR O x.key) = true := r5Same_iff.2 (gvR_mem hO.ni.sr hx).symm
  rw [this]
  simp
theorem nowL_self : ∀ (n : Nat) (O : List Rec), O.length = n → NR O → nowL [] O = O
  | 0, O, hn, _ => by
    have : O = [] := List.eq_nil_of_length_eq_zero hn
    subst this; rfl
  | n + 1, O, hn, hO => by
    rcases List.eq_nil_or_concat O with rfl | ⟨O', r, rfl⟩
    · cases hn
    · rw [List.concat_eq_append] at *
      rw [List.length_append, List.length_singleton] at hn
      have hs := List.pairwise_append.1 hO.ni.sr
      have hin : ∀ x ∈ O', x ∈ O' ++ [r] := fun x hx => List.mem_append_left _ hx
      have hO' : NR O' := ⟨⟨hs.1, fun x hx => hO.ni.ve x (hin x hx), fun x hx => hO.ni.ok x (hin x hx)⟩, fun x hx => hO.rr x (hin x hx)⟩
      have hr : r ∈ O' ++ [r] := List.mem_append_right _ (List.mem_singleton.2 rfl)
      have ih := nowL_self n O' (by omega) hO'
      rw [nowL_snoc, ih]
      unfold stepN
      have hne : ∀ x ∈ O', x.key ≠ r.key := fun x hx e => by
        have := hs.2.2 x hx r (List.mem_singleton.2 rfl)
        rw [ky_key.2 e] at this
        exact lt_irr _ this
      rw [gvR_none hne, nil_merge (rr_right (hO.rr r hr))]
      simp only [beq_self_eq_true, cond_true]
      have h3 := addL_self hO.ni.sr hO.ni.ve
      rw [addL_snoc, addL_self hO'.ni.sr hO'.ni.ve] at h3
      exact h3
/-! ### the last of each key -/
theorem idx_none {k : ByteArray} {v : List Ver} : ∀ (l : List Rec) (i : Nat), (∀ x ∈ l, x.key ≠ k) → forI (m_slices_IndexFunc_api_Rec_api_Rec_s1_b1 k v) (fun _ => some (-1)) i l () = some (-1)
  | [], _, _ => rfl
  | x :: l, i, h => by
    have ih := idx_none (k := k) (v := v) l (i + 1) (fun y hy => h y (List.mem_cons_of_mem _ hy))
    have hx : (x.key == k) = false := by
      have := h x List.mem_cons_self
      simpa using this
    show Option.bind (some (x.key == k)) (fun z13 => bif z13 then some ((i : Nat) : Int) else forI (m_slices_IndexFunc_api_Rec_api_Rec_s1_b1 k v) (fun _ => some (-1)) (i + 1) l ()) = _
    rw [hx, Option.bind_some, cond_false, ih]
theorem e_last {O : List Rec} (hs : SR O) (hl : O.length ≤ 1048576) : m_quorum_last O = some O := by
  unfold m_quorum_last
  refine forI_run (fun i out => out = O.take i) (fun out h => by rw [h, List.take_length]) (fun f i out hi h hf => ?_) rfl
  have hlen : out.length ≤ O.length := by rw [h, List.length_take]; omega
  have hd : ∀ x ∈ O.drop (i + 1), x.key ≠ (gt O i).key := fun x hx e => by
    have h2 : SR (gt O i :: O.drop (i + 1)) := by rw [← drop_gt hi]; exact List.Pairwise.sublist (List.drop_sublist i O) hs
    have := (List.pairwise_cons.1 h2).1 x hx
    rw [ky_key.2 e] at this
    exact lt_irr _ this
  unfold m_quorum_last_b4 m_quorum_last_j5 m_slices_ContainsFunc_api_Rec_api_Rec_s1 m_slices_IndexFunc_api_Rec_api_Rec_s1
  rw [chk_t (decide_eq_true (by omega)), idx_none _ 0 hd, Option.bind_some, Option.bind_some, show (!(decide ((0 : Int) ≤ -1))) = true from by decide, cond_true, chk_t (decide_eq_true (by rw [lim_eq]; omega))]
  exact hf _ (by rw [take_gt hi, h])
theorem e_RecsQ {got : List (Int × List Rec)} {T : List Rec} (h2 : (mget 2 got).getD [] = T) (h1 : (mget 1 got).getD [] = []) (hok : ∀ r ∈ T, RecOk r) (hr : ∀ r ∈ T, rr r = true) (hl : T.length ≤ 1048576) : m_quorum_Scan_Recs_l0 ⟨[2, 1], 1, got⟩ = some (nowL [] T) := by
  have hN := nowL_nr _ T rfl hok hr
  have hlN : (nowL [] T).length ≤ 1048576 := by have := (nowL_ni ni0 _ T rfl hok).2; simp at this; omega
  show m_quorum_Scan_Recs_l0_b1 ⟨[2, 1], 1, got⟩ (fun all => m_quorum_Scan_Recs_l0_b1 ⟨[2, 1], 1, got⟩ (fun all_7 => (Option.bind (m_quorum_last all_7) fun z47 => (Option.bind (m_mend_Take [] z47) fun z57 => (some z57.1)))) 1 1 all) 0 2 [] = _
  unfold m_quorum_Scan_Recs_l0_b1
  simp only [h2, h1]
  rw [cTake0 hok hr hl, Option.bind_some, chk_t (decide_eq_true (by rw [lim_eq, List.length_nil]; simp only; omega)), List.nil_append]
  generalize nowL [] T = O at *
  simp only
  rw [cTakeN hN hlN, Option.bind_some, chk_t (decide_eq_true (by rw [lim_eq, List.length_nil]; omega)), List.append_nil, e_last hN.ni.sr hlN, Option.bind_some, cTake0 hN.ni.ok hN.rr hlN, Option.bind_some, nowL_self _ O rfl hN]
/-! ### scanning -/
theorem e_sGot_t {recs : List Rec} (hok : ∀ r ∈ recs, RecOk r) (hr : ∀ r ∈ recs, rr r = true) (hl : recs.length ≤ 1048576) : m_quorum_Scan_Got ⟨[2, 1], 1, []⟩ 2 recs = some (⟨[2, 1], 1, [(2, recs)]⟩, true) := by
  unfold m_quorum_Scan_Got
  refine forI_run (fun i out => out = recs.take i) (fun out h => ?_) (fun f i out hi h hf => ?_) rfl
  · rw [h, List.take_length]
    unfold m_quorum_asking_api_Rec_count
    simp only [e_C2]
    rfl
  · have hm := gt_mem hi
    have hlen : out.length ≤ recs.length := by rw [h, List.length_take]; omega
    unfold m_quorum_Scan_Got_b1
    rw [e_cRec (hok _ hm), Option.bind_some, hr _ hm, Bool.not_true, cond_false, e_Merge (hok _ hm).vers vok0, merge_eq, merge_right0 (rr_right (hr _ hm)), Option.bind_some, chk_t (decide_eq_true (by rw [lim_eq]; omega))]
    exact hf _ (by rw [take_gt hi, h])
theorem e_sGot_f {recs : List Rec} (hok : ∀ r ∈ recs, RecOk r) (hr : ∃ r ∈ recs, rr r = false) (hl : recs.length ≤ 1048576) : m_quorum_Scan_Got ⟨[2, 1], 1, []⟩ 2 recs = some (⟨[2, 1], 1, []⟩, false) := by
  unfold m_quorum_Scan_Got
  refine forI_run (fun i (out : List Rec) => out.length ≤ i ∧ ∀ j, j < i → rr (gt recs j) = true) (fun out h => ?_) (fun f i out hi h hf => ?_) ⟨Nat.le_refl _, fun j hj => absurd hj (Nat.not_lt_zero _)⟩
  · obtain ⟨r, h1, h2⟩ := hr
    obtain ⟨j, hj, rfl⟩ := mem_gt h1
    rw [h.2 j hj] at h2; cases h2
  · have hm := gt_mem hi
    unfold m_quorum_Scan_Got_b1
    rw [e_cRec (hok _ hm), Option.bind_some]
    cases hc : rr (gt recs i) with
    | false => rfl
    | true =>
      rw [Bool.not_true, cond_false, e_Merge (hok _ hm).vers vok0, Option.bind_some, chk_t (decide_eq_true (by rw [lim_eq]; omega))]
      refine hf _ ⟨by rw [List.length_append, List.length_singleton]; omega, fun j hj => ?_⟩
      by_cases e : j = i
      · subst e; exact hc
      · exact h.2 j (by omega)
/-! ### the law -/
theorem spoil_loop {K : List Ver → Option Bool} {b : Option Bool} (hK : ∀ x, K x = b) : ∀ (l : List Ver) (i : Nat) (x : List Ver), forI m_firthlaw16_QuorumKeeps_b1 K i l x = b
  | [], _, x => hK x
  | _ :: l, i, x => spoil_loop hK l (i + 1) _
theorem keeps_law {l : List Ver} {recs : List Rec} (hl : VersOk l) (hok : ∀ r ∈ recs, RecOk r) (hn : recs.length ≤ 1048576) : m_firthlaw16_QuorumKeeps l recs = some true := by
  unfold m_firthlaw16_QuorumKeeps
  rw [awake16, Option.bind_some, e_r5Right hl]
  cases hr : r5Right l with
  | false => rfl
  | true =>
    have hg : gcall (!(!true)) (some true) = some true := rfl
    rw [hg, Option.bind_some, Bool.not_true, Bool.or_false, cond_false, e_NewR, Option.bind_some, e_NewS, Option.bind_some]
    simp only [Option.isNone_some, bne_self_eq_false, Bool.or_false, cond_false, Option.bind_some]
    rw [chk_t (decide_eq_true (by rw [Nat.zero_add]; exact hl.1)), e_Got2 hl hr, Option.bind_some]
    obtain ⟨z, h1, h2⟩ := e_TakeB (A := []) (T := recs) (fun r h => absurd h List.not_mem_nil) (Nat.zero_le _) hok hn
    have hs : m_firthref05_Same l l = some true := by rw [e_r5Same]; exact congrArg some (r5Same_iff.2 rfl)
    rcases all_or recs with hR | hR
    · rw [e_sGot_t hok hR hn, Option.bind_some]
      refine spoil_loop (fun x => ?_) _ _ _
      simp only
      rw [e_VersQ hl hr, Option.bind_some, e_RecsQ (T := recs) rfl rfl hok hR hn, Option.bind_some, rTake0 hok hR hn, Option.bind_some, Option.bind_some, hs, Option.bind_some]
      simp only [Bool.not_true, Bool.not_false, Bool.and_self, cond_true, Option.bind_some]
      rw [e_SameRecs, Option.bind_some, cond_true, e_Got7 _ rfl]
      rfl
    · rw [e_sGot_f hok hR hn, Option.bind_some]
      refine spoil_loop (fun x => ?_) _ _ _
      simp only
      rw [e_VersQ hl hr, Option.bind_some, e_RecsQ (T := []) rfl rfl (fun r h => absurd h List.not_mem_nil) (fun r h => absurd h List.not_mem_nil) (Nat.zero_le _), Option.bind_some, h2, Option.bind_some, Option.bind_some, hs, Option.bind_some]
      simp only [Bool.not_true, Bool.not_false, Bool.and_false, Bool.and_true, cond_false, cond_true]
      rw [e_Got7 _ rfl]
      rfl
theorem p_firthlaw16_QuorumKeeps {Γ : Gh} {Al : Option Addr} {cl : Nat} {l : List Ver} (hl : Sl verT Γ Al l) (hlc : l.length ≤ cl) {Arecs : Option Addr} {crecs : Nat} {recs : List Rec} (hrecs : Sl recT Γ Arecs recs) (hrecsc : recs.length ≤ crecs) (hb : bkL Ver.bk l ≤ 1048576) (hb2 : bkL Rec.bk recs ≤ 1048576) : m_firthlaw16_QuorumKeeps l recs = some true :=
  keeps_law (sl_versOk hl) (sl_recOk hrecs) (recs_len hb2)
end Fw
end Go.Proofs.Ytlgahohnbkkoiaa
