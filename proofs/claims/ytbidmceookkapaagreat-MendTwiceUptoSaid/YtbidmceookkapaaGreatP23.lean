/- What two hold, key by key; the law MendGives, as the printed models say it. No condition. -/
import Derived.Test.YtbidmceookkapaaGreatP22
namespace Go.Proofs.YtbidmceookkapaaGreat
namespace Fw
set_option linter.unusedVariables false
set_option linter.unusedSimpArgs false
set_option linter.unusedSectionVars false

/-! ### are all right? -/
theorem e_right1 {r : Rec} (h : RecOk r) : m_mend_right_1 r = some (!rr r) := by
  unfold m_mend_right_1
  rw [e_cRec h, Option.bind_some]
theorem e_right_t {l : List Rec} (hok : ∀ r ∈ l, RecOk r) (hr : ∀ r ∈ l, rr r = true) : m_mend_right l = some true := by
  unfold m_mend_right m_slices_ContainsFunc_api_Rec_api_Rec m_slices_IndexFunc_api_Rec_api_Rec
  have : forI m_slices_IndexFunc_api_Rec_api_Rec_b1 (fun _ => some (-1)) 0 l () = some (-1) := by
    refine forI_run (fun _ _ => True) (fun _ _ => rfl) (fun f i s hi _ hf => ?_) trivial
    unfold m_slices_IndexFunc_api_Rec_api_Rec_b1
    rw [e_right1 (hok _ (gt_mem hi)), Option.bind_some, hr _ (gt_mem hi), Bool.not_true, cond_false]
    exact hf () trivial
  rw [this]; rfl
theorem e_right_f {l : List Rec} (hok : ∀ r ∈ l, RecOk r) (hr : ∃ r ∈ l, rr r = false) : m_mend_right l = some false := by
  unfold m_mend_right m_slices_ContainsFunc_api_Rec_api_Rec m_slices_IndexFunc_api_Rec_api_Rec
  obtain ⟨z, h1, h2⟩ : ∃ z, forI m_slices_IndexFunc_api_Rec_api_Rec_b1 (fun _ => some (-1)) 0 l () = some z ∧ 0 ≤ z := by
    refine forI_ex (fun i _ => ∀ j, j < i → rr (gt l j) = true) (fun z => 0 ≤ z) (fun _ hI => ?_) (fun f i s hi hI hf => ?_) (fun j hj => absurd hj (Nat.not_lt_zero _))
    · obtain ⟨r, h1, h2⟩ := hr
      obtain ⟨j, hj, rfl⟩ := mem_gt h1
      rw [hI j hj] at h2; cases h2
    · unfold m_slices_IndexFunc_api_Rec_api_Rec_b1
      rw [e_right1 (hok _ (gt_mem hi)), Option.bind_some]
      cases hc : rr (gt l i) with
      | false => exact ⟨_, rfl, by omega⟩
      | true =>
        rw [Bool.not_true, cond_false]
        refine hf () fun j hj => ?_
        by_cases e : j = i
        · subst e; exact hc
        · exact hI j (by omega)
  rw [h1, Option.bind_some, Option.bind_some, decide_eq_true h2]; rfl

/-! ### a key's versions -/
def gvR (L : List Rec) (k : ByteArray) : List Ver := ((L.find? (fun r => r.key == k)).map Rec.vers).getD []
theorem gvR_cons (x : Rec) (L : List Rec) (k : ByteArray) : gvR (x :: L) k = bif x.key == k then x.vers else gvR L k := by
  unfold gvR
  rw [List.find?_cons]
  cases x.key == k <;> rfl
theorem gvR_none {L : List Rec} {k : ByteArray} (h : ∀ r ∈ L, r.key ≠ k) : gvR L k = [] := by
  unfold gvR
  rw [List.find?_eq_none.2 (fun x hx => by simpa using h x hx)]; rfl
theorem gvR_mem : ∀ {L : List Rec} {r : Rec}, SR L → r ∈ L → gvR L r.key = r.vers := by
  intro L r hs hm
  unfold gvR
  cases hf : L.find? (fun x => x.key == r.key) with
  | none =>
    have := List.find?_eq_none.1 hf r hm
    simp at this
  | some x =>
    have h1 := List.mem_of_find?_eq_some hf
    have h2 : x.key = r.key := by have := List.find?_some hf; simpa using this
    rw [sr_key hs h1 hm h2]; rfl
theorem gvR_withr {L : List Rec} (hs : SR L) (r : Rec) (k : ByteArray) : gvR (withr L r) k = if k = r.key then r.vers else gvR L k := by
  by_cases hk : k = r.key
  · subst hk
    rw [if_pos rfl]
    by_cases hv : r.vers = []
    · rw [hv]
      exact gvR_none fun x hx => by
        rcases mem_withr.1 hx with ⟨_, h⟩ | ⟨_, h⟩
        · exact absurd hv h
        · exact h
    · exact gvR_mem (sr_withr hs) (mem_withr.2 (.inl ⟨rfl, hv⟩))
  · rw [if_neg hk]
    rcases Classical.em (∃ x ∈ L, x.key = k) with ⟨x, hx, he⟩ | hn
    · subst he
      rw [gvR_mem hs hx, gvR_mem (sr_withr hs) (mem_withr.2 (.inr ⟨hx, hk⟩))]
    · rw [gvR_none (fun x hx he => hn ⟨x, hx, he⟩)]
      exact gvR_none fun x hx he => by
        rcases mem_withr.1 hx with ⟨h, _⟩ | ⟨h, _⟩
        · subst h; exact hk he.symm
        · exact hn ⟨x, h, he⟩
theorem foldl_sr : ∀ (l acc : List Rec), SR acc → SR (l.foldl withr acc)
  | [], _, h => h
  | r :: l, acc, h => foldl_sr l _ (sr_withr h)
theorem addL_sr (l : List Rec) : SR (addL l) := foldl_sr l [] List.Pairwise.nil
theorem foldl_mem : ∀ {l acc : List Rec} {x : Rec}, x ∈ l.foldl withr acc → x ∈ l ∨ x ∈ acc
  | [], _, _, h => .inr h
  | r :: l, acc, x, h => by
    rcases foldl_mem (l := l) h with h | h
    · exact .inl (List.mem_cons_of_mem _ h)
    · rcases mem_withr.1 h with ⟨h, _⟩ | ⟨h, _⟩
      · subst h; exact .inl List.mem_cons_self
      · exact .inr h
theorem mem_addL {l : List Rec} {x : Rec} (h : x ∈ addL l) : x ∈ l := by
  rcases foldl_mem h with h | h
  · exact h
  · cases h
theorem vok_nil : VersOk [] := ⟨Nat.zero_le _, fun v h => absurd h List.not_mem_nil⟩
theorem gvR_ok {L : List Rec} (h : ∀ r ∈ L, RecOk r) (k : ByteArray) : VersOk (gvR L k) := by
  unfold gvR
  cases hf : L.find? (fun x => x.key == k) with
  | none => exact vok_nil
  | some x => exact (h x (List.mem_of_find?_eq_some hf)).vers
theorem addL_ok {l : List Rec} (h : ∀ r ∈ l, RecOk r) : ∀ r ∈ addL l, RecOk r := fun r hr => h r (mem_addL hr)
theorem e_Get (L : List Rec) (k : ByteArray) : m_firthref14_Get L k = some (gvR L k) := by
  unfold m_firthref14_Get
  refine (forI_inv (fun i _ => some (gvR (L.drop i) k)) (fun _ _ => True) (fun _ _ => ?_) (fun f i s hi _ hf => ?_) trivial).trans (by rw [List.drop_zero])
  · rw [List.drop_of_length_le (Nat.le_refl _)]; rfl
  · unfold m_firthref14_Get_b1
    rw [hf () trivial, drop_gt hi, gvR_cons]
    cases (gt L i).key == k <;> rfl
/-- a map that holds what a list holds -/
structure HeldM (m : List (ByteArray × List Ver)) (L : List Rec) : Prop where
  nk : (m.map (·.1)).Nodup
  get : ∀ k, (mget k m).getD [] = gvR L k
theorem HeldM.put {m : List (ByteArray × List Ver)} {L : List Rec} (h : HeldM m L) (hs : SR L) (r : Rec) : HeldM (mput r.key r.vers m) (withr L r) := by
  refine ⟨mput_nodup h.nk, fun k => ?_⟩
  rw [mget_mput, gvR_withr hs]
  by_cases hk : k = r.key
  · rw [if_pos hk, if_pos hk]; rfl
  · rw [if_neg hk, if_neg hk]; exact h.get k
theorem e_held (l : List Rec) : ∃ m, m_mend_held l = some m ∧ HeldM m (addL l) := by
  unfold m_mend_held
  refine forI_ex (fun i m => HeldM m (addL (l.take i))) (fun m => HeldM m (addL l)) (fun m h => ⟨m, rfl, by rw [List.take_length] at h; exact h⟩) (fun f i m hi h hf => ?_) ⟨List.nodup_nil, fun k => rfl⟩
  unfold m_mend_held_b1
  refine hf _ ?_
  rw [take_gt hi, addL_snoc]
  exact h.put (addL_sr _) _

/-! ### Give -/
theorem filter_take {α : Type} [Inhabited α] (p : α → Bool) {l : List α} {i : Nat} (hi : i < l.length) : (l.take (i + 1)).filter p = bif p (gt l i) then (l.take i).filter p ++ [gt l i] else (l.take i).filter p := by
  rw [take_gt hi, List.filter_append, List.filter_cons]
  cases p (gt l i) <;> simp
theorem filter_take_len {α : Type} (p : α → Bool) (l : List α) (i : Nat) : ((l.take i).filter p).length ≤ l.length := Nat.le_trans (List.length_filter_le _ _) (by rw [List.length_take]; omega)
def giveV (L T : List Rec) (path : List Int) : List Rec := (rcV L path).filter (fun r => r5Lacks (gvR T r.key) r.vers)
theorem rcV_sub {L : List Rec} {path : List Int} {r : Rec} (h : r ∈ rcV L path) : r ∈ L := by
  unfold rcV at h
  cases ho : okP path with
  | false => rw [ho] at h; cases h
  | true => rw [ho, cond_true] at h; exact (List.mem_filter.1 h).1
theorem rcV_len (L : List Rec) (path : List Int) : (rcV L path).length ≤ L.length := by
  unfold rcV
  cases okP path
  · exact Nat.zero_le _
  · exact List.length_filter_le _ _
theorem e_Give {own theirs : List Rec} (path : List Int) (hok : ∀ r ∈ own, RecOk r) (hl : own.length ≤ 1048576) (hokt : ∀ r ∈ theirs, RecOk r) (hr : ∀ r ∈ own, rr r = true) (hrt : ∀ r ∈ theirs, rr r = true) : m_mend_Give own path theirs = some (giveV (addL own) (addL theirs) path) := by
  unfold m_mend_Give
  obtain ⟨o, h1, h2⟩ := e_New_t hok hr
  have hn : (addL own).length ≤ 4194304 := by have := addL_len own; omega
  rw [h1, Option.bind_some]
  simp only
  rw [show ((0 : Int) != 0) = false from rfl, e_right_t hokt hrt, gcall_s, Option.bind_some]
  simp only [Bool.not_false, cond_true, Bool.not_true, Bool.or_self, cond_false]
  obtain ⟨m, h3, h4⟩ := e_held theirs
  rw [h3, Option.bind_some, Option.bind_some, e_RecsV h2 hn, Option.bind_some]
  unfold giveV
  have hlen := rcV_len (addL own) path
  have hsub : ∀ r ∈ rcV (addL own) path, RecOk r := fun r hr => addL_ok hok r (rcV_sub hr)
  generalize rcV (addL own) path = D at hlen hsub ⊢
  refine forI_run (fun i out => out = (D.take i).filter (fun r => r5Lacks (gvR (addL theirs) r.key) r.vers)) (fun out h => by rw [h, List.take_length]) (fun f i out hi h hf => ?_) rfl
  have hol : out.length ≤ D.length := by rw [h]; exact filter_take_len _ _ _
  have hst := filter_take (fun r => r5Lacks (gvR (addL theirs) r.key) r.vers) hi
  unfold m_mend_Give_b4 m_mend_Give_j5
  rw [h4.get, e_Lacks (gvR_ok (addL_ok hokt) _) (hsub _ (gt_mem hi)).vers, Option.bind_some, lacks_eq]
  cases hc : r5Lacks (gvR (addL theirs) (gt D i).key) (gt D i).vers with
  | true =>
    rw [cond_true, chk_t (decide_eq_true (by rw [lim_v]; omega))]
    refine hf _ ?_
    rw [hst, hc, cond_true, h]
  | false =>
    rw [cond_false]
    refine hf _ ?_
    rw [hst, hc, cond_false, h]
theorem e_rGive {own theirs : List Rec} (path : List Int) (hok : ∀ r ∈ own, RecOk r) (hl : own.length ≤ 1048576) (hokt : ∀ r ∈ theirs, RecOk r) (hlt : theirs.length ≤ 1048576) (hr : ∀ r ∈ own, rr r = true) (hrt : ∀ r ∈ theirs, rr r = true) : m_firthref14_Give own path theirs = some (giveV (addL own) (addL theirs) path) := by
  unfold m_firthref14_Give
  have hn : (addL own).length ≤ 4194304 := by have := addL_len own; omega
  rw [e_Held_t hok (by rw [lim_v]; omega) hr, Option.bind_some, e_Held_t hokt (by rw [lim_v]; omega) hrt, Option.bind_some]
  simp only [Bool.not_true, Bool.or_self, cond_false]
  rw [e_rRecs hn, Option.bind_some]
  show forI _ _ 0 (rcV (addL own) path) _ = _
  unfold giveV
  have hlen := rcV_len (addL own) path
  have hsub : ∀ r ∈ rcV (addL own) path, RecOk r := fun r hr => addL_ok hok r (rcV_sub hr)
  generalize rcV (addL own) path = D at hlen hsub ⊢
  refine forI_run (fun i (s : List Rec × List Rec) => s.1 = addL theirs ∧ s.2 = (D.take i).filter (fun r => r5Lacks (gvR (addL theirs) r.key) r.vers)) (fun s h => by obtain ⟨a, b⟩ := s; have h2 := h.2; rw [List.take_length] at h2; simp only at h2 ⊢; rw [h2]) (fun f i s hi h hf => ?_) ⟨rfl, rfl⟩
  obtain ⟨has, out⟩ := s
  obtain ⟨ha, h⟩ := h
  simp only at ha h
  subst ha
  have hol : out.length ≤ D.length := by rw [h]; exact filter_take_len _ _ _
  have hst := filter_take (fun r => r5Lacks (gvR (addL theirs) r.key) r.vers) hi
  unfold m_firthref14_Give_b4 m_firthref14_Give_j5
  simp only
  rw [e_Get, Option.bind_some, e_r5Lacks (gvR_ok (addL_ok hokt) _) (hsub _ (gt_mem hi)).vers, Option.bind_some]
  cases hc : r5Lacks (gvR (addL theirs) (gt D i).key) (gt D i).vers with
  | true =>
    rw [cond_true, chk_t (decide_eq_true (by rw [lim_v]; omega))]
    refine hf _ ⟨rfl, ?_⟩
    simp only
    rw [hst, hc, cond_true, h]
  | false =>
    rw [cond_false]
    refine hf _ ⟨rfl, ?_⟩
    simp only
    rw [hst, hc, cond_false, h]
theorem gives_law {own theirs : List Rec} (path : List Int) (hok : ∀ r ∈ own, RecOk r) (hl : own.length ≤ 1048576) (hokt : ∀ r ∈ theirs, RecOk r) (hlt : theirs.length ≤ 1048576) : m_firthlaw14_MendGives own path theirs = some true := by
  unfold m_firthlaw14_MendGives
  rw [awake14, Option.bind_some, cond_true]
  have key : ∀ g, m_mend_Give own path theirs = some g → m_firthref14_Give own path theirs = some g → ((m_mend_Give own path theirs).bind fun z7 => (m_firthref14_Give own path theirs).bind fun z17 => (m_firthref06_SameRecs z7 z17).bind fun z27 => some z27) = some true := fun g h1 h2 => by
    rw [h1, Option.bind_some, h2, Option.bind_some, e_SameRecs]; rfl
  rcases all_or own with hr | hr
  · rcases all_or theirs with hrt | hrt
    · exact key _ (e_Give path hok hl hokt hr hrt) (e_rGive path hok hl hokt hlt hr hrt)
    · refine key [] ?_ ?_
      · unfold m_mend_Give
        obtain ⟨o, h1, h2⟩ := e_New_t hok hr
        rw [h1, Option.bind_some]
        simp only
        rw [e_right_f hokt hrt, gcall_s, Option.bind_some]; rfl
      · unfold m_firthref14_Give
        rw [e_Held_t hok (by rw [lim_v]; omega) hr, Option.bind_some, e_Held_f hokt (by rw [lim_v]; omega) hrt, Option.bind_some]; rfl
  · refine key [] ?_ ?_
    · unfold m_mend_Give
      rw [e_New_f hok hr, Option.bind_some]
      rcases all_or theirs with hrt | hrt
      · rw [e_right_t hokt hrt, gcall_s, Option.bind_some]; rfl
      · rw [e_right_f hokt hrt, gcall_s, Option.bind_some]; rfl
    · unfold m_firthref14_Give
      rw [e_Held_f hok (by rw [lim_v]; omega) hr, Option.bind_some]
      rcases all_or theirs with hrt | hrt
      · rw [e_Held_t hokt (by rw [lim_v]; omega) hrt, Option.bind_some]; rfl
      · rw [e_Held_f hokt (by rw [lim_v]; omega) hrt, Option.bind_some]; rfl
theorem p_firthlaw14_MendGives {Γ : Gh} {A : Option Addr} {c : Nat} {own : List Rec} (hs : Sl recT Γ A own) (hc : own.length ≤ c) {A2 : Option Addr} {c2 : Nat} {path : List Int} (hs2 : Sl intT Γ A2 path) (hc2 : path.length ≤ c2) {A3 : Option Addr} {c3 : Nat} {theirs : List Rec} (hs3 : Sl recT Γ A3 theirs) (hc3 : theirs.length ≤ c3) (m1 : bkL Rec.bk own ≤ 1048576) (m2 : bkL bkOne path ≤ 1048576) (m3 : bkL Rec.bk theirs ≤ 1048576) :
    m_firthlaw14_MendGives own path theirs = some true := gives_law path (sl_recOk hs) (recs_len m1) (sl_recOk hs3) (recs_len m3)
end Fw
end Go.Proofs.YtbidmceookkapaaGreat
