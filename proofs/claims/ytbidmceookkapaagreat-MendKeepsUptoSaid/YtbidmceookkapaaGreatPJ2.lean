/- The plain side: what the models come to. No condition. -/
import Derived.Test.YtbidmceookkapaaGreatPJ1
namespace Go.Proofs.YtbidmceookkapaaGreat
namespace Fw
set_option linter.unusedVariables false
set_option linter.unusedSimpArgs false
set_option linter.unusedSectionVars false

/-! ### what is handed in is copied -/
theorem own_loop {k : ByteArray} : ∀ (l : List Ver) (i : Nat) (out : List Ver), (∀ v ∈ l, v.past.length ≤ lim) → out.length + l.length ≤ lim → forI m_firthref10_Own_b1 (fun x6 => some (⟨k, x6⟩ : Rec)) i l out = some ⟨k, out ++ l⟩
  | [], i, out, _, _ => by rw [List.append_nil]; rfl
  | v :: l, i, out, h, hl => by
    rw [List.length_cons] at hl
    have ih := own_loop (k := k) l (i + 1) (out ++ [v]) (fun x hx => h x (List.mem_cons_of_mem _ hx)) (by rw [List.length_append, List.length_singleton]; omega)
    show chk (decide (0 + v.past.length ≤ lim)) (chk (decide (out.length + 1 ≤ lim)) (forI m_firthref10_Own_b1 (fun x6 => some (⟨k, x6⟩ : Rec)) (i + 1) l (out ++ [v]))) = _
    rw [decide_eq_true (show 0 + v.past.length ≤ lim by rw [Nat.zero_add]; exact h v List.mem_cons_self), decide_eq_true (show out.length + 1 ≤ lim by omega)]
    show forI m_firthref10_Own_b1 (fun x6 => some (⟨k, x6⟩ : Rec)) (i + 1) l (out ++ [v]) = _
    rw [ih, List.append_assoc]
    rfl
theorem e_ownR {r : Rec} (h : RecOk r) : m_firthref10_Own r = some r := by
  unfold m_firthref10_Own
  rw [own_loop r.vers 0 [] (fun v hv => (h.vers.2 v hv).len) (by rw [List.length_nil, Nat.zero_add]; exact h.vers.1), List.nil_append]
theorem mine_loop {K : List Rec → Option Bool} : ∀ (l : List Rec) (i : Nat) (out : List Rec), (∀ r ∈ l, RecOk r) → out.length + l.length ≤ lim → forI m_firthlaw14_MendKeeps_b1 K i l out = K (out ++ l)
  | [], i, out, _, _ => by rw [List.append_nil]; rfl
  | r :: l, i, out, h, hl => by
    rw [List.length_cons] at hl
    have ih := mine_loop (K := K) l (i + 1) (out ++ [r]) (fun x hx => h x (List.mem_cons_of_mem _ hx)) (by rw [List.length_append, List.length_singleton]; omega)
    show (m_firthref10_Own r).bind (fun z21 => chk (decide (out.length + 1 ≤ lim)) (forI m_firthlaw14_MendKeeps_b1 K (i + 1) l (out ++ [z21]))) = _
    rw [e_ownR (h r List.mem_cons_self), Option.bind_some, chk_t (decide_eq_true (by omega)), ih, List.append_assoc]
    rfl

/-! ### what is held now -/
def stepN (L : List Rec) (r : Rec) : List Rec := bif ((r5Merge (gvR L r.key) r.vers).2 == 0) then withr L ⟨r.key, (r5Merge (gvR L r.key) r.vers).1⟩ else L
structure NI (L : List Rec) : Prop where
  sr : SR L
  ve : ∀ r ∈ L, r.vers ≠ []
  ok : ∀ r ∈ L, RecOk r
theorem NI.step {L : List Rec} (h : NI L) {r : Rec} (hr : RecOk r) : NI (stepN L r) := by
  unfold stepN
  cases (r5Merge (gvR L r.key) r.vers).2 == 0 with
  | false => exact h
  | true =>
    rw [cond_true]
    refine ⟨foldl_sr [_] L h.sr, foldl_vers (l := [_]) h.ve, fun x hx => ?_⟩
    rcases foldl_mem (l := [_]) (acc := L) hx with hx | hx
    · rw [List.mem_singleton.1 hx]; exact ⟨hr.1, merge_ok (gvR_ok h.ok _) hr.vers⟩
    · exact h.ok x hx
theorem stepN_len (L : List Rec) (r : Rec) : (stepN L r).length ≤ L.length + 1 := by
  unfold stepN
  cases (r5Merge (gvR L r.key) r.vers).2 == 0 with
  | false => exact Nat.le_succ _
  | true => rw [cond_true]; exact withr_len _ _
def nowL (A T : List Rec) : List Rec := T.foldl stepN A
theorem nowL_snoc (A T : List Rec) (r : Rec) : nowL A (T ++ [r]) = stepN (nowL A T) r := by unfold nowL; rw [List.foldl_append]; rfl
theorem nowL_ni {A : List Rec} (h : NI A) : ∀ (n : Nat) (T : List Rec), T.length = n → (∀ r ∈ T, RecOk r) → NI (nowL A T) ∧ (nowL A T).length ≤ A.length + T.length
  | 0, T, hn, _ => by
    have : T = [] := List.eq_nil_of_length_eq_zero hn
    subst this; exact ⟨h, Nat.le_refl _⟩
  | n + 1, T, hn, hT => by
    rcases List.eq_nil_or_concat T with rfl | ⟨T', r, rfl⟩
    · cases hn
    · rw [List.concat_eq_append] at *
      rw [List.length_append, List.length_singleton] at hn
      obtain ⟨h1, h2⟩ := nowL_ni h n T' (by omega) (fun x hx => hT x (List.mem_append_left _ hx))
      rw [nowL_snoc]
      refine ⟨h1.step (hT r (List.mem_append_right _ (List.mem_singleton.2 rfl))), ?_⟩
      have := stepN_len (nowL A T') r
      rw [List.length_append, List.length_singleton]; omega
theorem addL_ni {l : List Rec} (h : ∀ r ∈ l, RecOk r) : NI (addL l) := ⟨addL_sr l, addL_vers l, addL_ok h⟩
theorem gvR_in {L : List Rec} {k : ByteArray} (h : gvR L k ≠ []) : (⟨k, gvR L k⟩ : Rec) ∈ L := by
  unfold gvR at *
  cases hf : L.find? (fun x => x.key == k) with
  | none => rw [hf] at h; exact absurd rfl h
  | some x =>
    have h1 := List.mem_of_find?_eq_some hf
    have h2 : x.key = k := by simpa using List.find?_some hf
    simp only [Option.map_some, Option.getD_some]
    rw [← h2]; exact h1
theorem sr_same {a b : List Rec} (ha : SR a) (hb : SR b) (va : ∀ r ∈ a, r.vers ≠ []) (vb : ∀ r ∈ b, r.vers ≠ []) (h : ∀ x, x ∈ a ↔ x ∈ b) : a = b := by
  refine list_ext ha hb va vb fun k => ?_
  by_cases hk : gvR a k = []
  · by_cases hk2 : gvR b k = []
    · rw [hk, hk2]
    · have := gvR_mem ha ((h _).2 (gvR_in hk2))
      exact this
  · have := gvR_mem hb ((h _).1 (gvR_in hk))
    exact this.symm

/-! ### Take -/
theorem mput_len {α : Type} (k : ByteArray) (v : α) : ∀ m : List (ByteArray × α), (mput k v m).length ≤ m.length + 1
  | [] => Nat.le_refl _
  | p :: m => by
    have ih := mput_len k v m
    unfold mput
    split
    · simp
    · simp only [List.length_cons]; omega
theorem e_heldL (l : List Rec) : ∃ m, m_mend_held l = some m ∧ HeldM m (addL l) ∧ m.length ≤ l.length := by
  unfold m_mend_held
  refine forI_ex (body := m_mend_held_b1) (fun i m => HeldM m (addL (l.take i)) ∧ m.length ≤ i) (fun m => HeldM m (addL l) ∧ m.length ≤ l.length) (fun m h => ⟨m, rfl, by have := h.1; rw [List.take_length] at this; exact ⟨this, h.2⟩⟩) (fun f i m hi h hf => ?_) ⟨⟨List.nodup_nil, fun k => rfl⟩, Nat.le_refl _⟩
  unfold m_mend_held_b1
  refine hf _ ⟨?_, ?_⟩
  · rw [take_gt hi, addL_snoc]; exact h.1.put (addL_sr _) _
  · have := mput_len (gt l i).key (gt l i).vers m; omega
def tcG (A N : List Rec) (k : ByteArray) : Bool := decide (0 < (((gvR N k).length : Nat) : Int)) && !(r5Same (gvR N k) (gvR A k))
theorem e_TakeG {A T : List Rec} (hokA : ∀ r ∈ A, RecOk r) (hrA : ∀ r ∈ A, rr r = true) (hlA : A.length ≤ 4194304) (hokT : ∀ r ∈ T, RecOk r) (hrT : ∀ r ∈ T, rr r = true) (hlT : T.length ≤ 4194304) :
    ∃ out, m_mend_Take A T = some (out, 0) ∧ SR out ∧ ∀ x, x ∈ out ↔ (x.vers = gvR (nowL (addL A) T) x.key ∧ tcG (addL A) (nowL (addL A) T) x.key = true) := by
  unfold m_mend_Take
  rw [e_right_t hokA hrA, Option.bind_some, e_right_t hokT hrT, gcall_s, Option.bind_some]
  simp only [Bool.not_true, Bool.not_false, cond_true, Bool.or_self, cond_false]
  obtain ⟨m0, h1, h2, h3⟩ := e_heldL A
  rw [h1, Option.bind_some, Option.bind_some]
  have hNA := addL_ni hokA
  generalize hL : addL A = L at *
  obtain ⟨N, hN⟩ : ∃ N, N = nowL L T := ⟨_, rfl⟩
  rw [← hN]
  obtain ⟨r, e1, out, e2, e3, e4⟩ := forI_ex (body := m_mend_Take_b4) (k := fun m29 => chk (decide (m29.length ≤ lim)) (forI (m_mend_Take_b9 m0 m29) (fun out_84 => some (out_84, (0 : Int))) 0 (skeys m29) [])) (l := T) (s := m0) (fun i m => HeldM m (nowL L (T.take i)) ∧ m.length ≤ A.length + i) (fun r => ∃ out, r = (out, (0 : Int)) ∧ SR out ∧ ∀ x, x ∈ out ↔ (x.vers = gvR N x.key ∧ tcG L N x.key = true)) (fun m hI => by
    obtain ⟨hI, hlm⟩ := hI
    rw [List.take_length, ← hN] at hI
    rw [chk_t (decide_eq_true (by rw [lim_v]; omega))]
    have hkl : (skeys m).length = m.length := skeys_len m
    refine ⟨(((skeys m).filter (tcG L N)).map (fun k => (⟨k, gvR N k⟩ : Rec)), 0), ?_, _, rfl, ?_, fun x => ?_⟩
    · refine forI_run (fun i out => out = (((skeys m).take i).filter (tcG L N)).map (fun k => (⟨k, gvR N k⟩ : Rec))) (fun out h => by rw [h, List.take_length]) (fun f i out hi h hf => ?_) rfl
      have hol : out.length ≤ m.length := by
        rw [h, List.length_map, ← hkl]; exact filter_take_len _ _ _
      have hst := filter_take (tcG L N) hi
      unfold m_mend_Take_b9 m_mend_Take_j10
      have hg : (mget (gt (skeys m) i) m).getD [] = gvR N (gt (skeys m) i) := hI.get _
      rw [hg, h2.get, e_vsSameL, sameL_eq, gcall_s, Option.bind_some]
      have hb : (decide (0 < (((gvR N (gt (skeys m) i)).length : Nat) : Int)) && !(bif decide (0 < (((gvR N (gt (skeys m) i)).length : Nat) : Int)) then r5Same (gvR N (gt (skeys m) i)) (gvR L (gt (skeys m) i)) else default)) = tcG L N (gt (skeys m) i) := by
        unfold tcG
        cases decide (0 < (((gvR N (gt (skeys m) i)).length : Nat) : Int)) <;> rfl
      rw [hb]
      cases hc : tcG L N (gt (skeys m) i) with
      | true =>
        rw [cond_true, chk_t (decide_eq_true (by rw [lim_v]; omega))]
        refine hf _ ?_
        rw [hst, hc, cond_true, List.map_append, ← h]; rfl
      | false =>
        rw [cond_false]
        refine hf _ ?_
        rw [hst, hc, cond_false, h]
    · unfold SR
      rw [List.pairwise_map]
      exact List.Pairwise.filter _ (skeys_srt hI.nk)
    · simp only [List.mem_map, List.mem_filter]
      constructor
      · rintro ⟨k, ⟨_, hk⟩, rfl⟩; exact ⟨rfl, hk⟩
      · rintro ⟨hx, hk⟩
        refine ⟨x.key, ⟨?_, hk⟩, by rw [← hx]⟩
        have hne : gvR N x.key ≠ [] := fun e => by
          unfold tcG at hk
          rw [e] at hk; simp at hk
        rw [mem_skeys]
        cases hm : mget x.key m with
        | none => exact absurd (show gvR N x.key = [] by rw [← hI.get, hm]; rfl) hne
        | some v => exact List.mem_map.2 ⟨_, mget_mem hm, rfl⟩) (fun f i m hi hI hf => by
    obtain ⟨hI, hlm⟩ := hI
    have hrm := gt_mem hi
    have hni := (nowL_ni hNA _ (T.take i) rfl (fun x hx => hokT x (List.mem_of_mem_take hx))).1
    have hst : nowL L (T.take (i + 1)) = stepN (nowL L (T.take i)) (gt T i) := by rw [take_gt hi, nowL_snoc]
    unfold m_mend_Take_b4 m_mend_Take_j5
    rw [hI.get, e_Merge (gvR_ok hni.ok _) (hokT _ hrm).vers, Option.bind_some, merge_eq]
    unfold stepN at hst
    cases hc : (r5Merge (gvR (nowL L (T.take i)) (gt T i).key) (gt T i).vers).2 == 0 with
    | true =>
      rw [hc, cond_true] at hst
      rw [cond_true]
      refine hf _ ⟨?_, ?_⟩
      · rw [hst]; exact hI.put hni.sr ⟨(gt T i).key, (r5Merge (gvR (nowL L (T.take i)) (gt T i).key) (gt T i).vers).1⟩
      · have := mput_len (gt T i).key (r5Merge (gvR (nowL L (T.take i)) (gt T i).key) (gt T i).vers).1 m; omega
    | false =>
      rw [hc, cond_false] at hst
      rw [cond_false]
      exact hf _ ⟨by rw [hst]; exact hI, by omega⟩) ⟨h2, by omega⟩
  subst e2
  exact ⟨out, e1, e3, e4⟩
theorem e_rTakeG {A T : List Rec} (hokA : ∀ r ∈ A, RecOk r) (hrA : ∀ r ∈ A, rr r = true) (hlA : A.length ≤ 4194304) (hokT : ∀ r ∈ T, RecOk r) (hrT : ∀ r ∈ T, rr r = true) (hlT : T.length ≤ 4194304) :
    m_firthref14_Take A T = some ((nowL (addL A) T).filter (fun x => !(r5Same x.vers (gvR (addL A) x.key))), 0) := by
  unfold m_firthref14_Take
  rw [e_Held_t hokA (by rw [lim_v]; omega) hrA, Option.bind_some]
  simp only [Bool.not_true, cond_false]
  rw [e_Held_t hokT (by rw [lim_v]; omega) hrT, Option.bind_some]
  simp only [Bool.not_true, cond_false]
  have hNA := addL_ni hokA
  have hAl := addL_len A
  generalize addL A = L at *
  refine forI_run (fun i s => s = (L, nowL L (T.take i))) (fun s h => ?_) (fun f i s hi h hf => ?_) rfl
  · rw [h, List.take_length]
    have hl := (nowL_ni hNA _ T rfl hokT).2
    generalize nowL L T = N at *
    simp only
    refine forI_run (fun i out => out = (N.take i).filter (fun x => !(r5Same x.vers (gvR L x.key)))) (fun out h => by rw [h, List.take_length]) (fun f i out hi h hf => ?_) rfl
    have hol : out.length ≤ N.length := by rw [h]; exact filter_take_len _ _ _
    have hst := filter_take (fun x => !(r5Same x.vers (gvR L x.key))) hi
    unfold m_firthref14_Take_b9 m_firthref14_Take_j10
    rw [e_Get, Option.bind_some, e_r5Same, Option.bind_some]
    cases hc : r5Same (gt N i).vers (gvR L (gt N i).key) with
    | false =>
      rw [Bool.not_false, cond_true, chk_t (decide_eq_true (by rw [lim_v]; omega))]
      refine hf _ ?_
      rw [hst, hc, Bool.not_false, cond_true, ← h]
    | true =>
      rw [Bool.not_true, cond_false]
      refine hf _ ?_
      rw [hst, hc, Bool.not_true, cond_false, h]
  · subst h
    have hrm := gt_mem hi
    obtain ⟨hni, hl⟩ := nowL_ni hNA _ (T.take i) rfl (fun x hx => hokT x (List.mem_of_mem_take hx))
    have hst : nowL L (T.take (i + 1)) = stepN (nowL L (T.take i)) (gt T i) := by rw [take_gt hi, nowL_snoc]
    have hl2 : (T.take i).length ≤ T.length := by rw [List.length_take]; omega
    unfold m_firthref14_Take_b4 m_firthref14_Take_j5
    simp only
    rw [e_Get, Option.bind_some, e_r5Merge (gvR_ok hni.ok _) (hokT _ hrm).vers, Option.bind_some]
    unfold stepN at hst
    cases hc : (r5Merge (gvR (nowL L (T.take i)) (gt T i).key) (gt T i).vers).2 == 0 with
    | true =>
      rw [hc, cond_true] at hst
      rw [cond_true, e_With (by rw [lim_v]; omega), Option.bind_some]
      exact hf _ (by rw [hst])
    | false =>
      rw [hc, cond_false] at hst
      rw [cond_false]
      exact hf _ (by rw [hst])
theorem e_TakeB {A T : List Rec} (hokA : ∀ r ∈ A, RecOk r) (hlA : A.length ≤ 1048576) (hokT : ∀ r ∈ T, RecOk r) (hlT : T.length ≤ 1048576) : ∃ z, m_mend_Take A T = some z ∧ m_firthref14_Take A T = some z := by
  rcases all_or A with hA | hA
  · rcases all_or T with hT | hT
    · obtain ⟨out, h1, h2, h3⟩ := e_TakeG hokA hA (by omega) hokT hT (by omega)
      refine ⟨_, h1, ?_⟩
      rw [e_rTakeG hokA hA (by omega) hokT hT (by omega)]
      obtain ⟨hni, _⟩ := nowL_ni (addL_ni hokA) _ T rfl hokT
      generalize nowL (addL A) T = N at *
      generalize addL A = L at *
      congr 2
      refine sr_same (List.Pairwise.filter _ hni.sr) h2 (fun r hr => hni.ve r (List.mem_filter.1 hr).1) (fun r hr => ?_) (fun x => ?_)
      · have h4 := (h3 r).1 hr
        rw [h4.1]
        intro e
        have := h4.2
        unfold tcG at this
        rw [e] at this; simp at this
      · rw [h3, List.mem_filter]
        constructor
        · rintro ⟨hx, hs⟩
          have hg := gvR_mem hni.sr hx
          refine ⟨hg.symm, ?_⟩
          unfold tcG
          rw [hg, Bool.and_eq_true]
          refine ⟨decide_eq_true ?_, hs⟩
          have := hni.ve x hx
          have := List.length_pos_iff.2 this
          omega
        · rintro ⟨hx, hs⟩
          unfold tcG at hs
          rw [Bool.and_eq_true] at hs
          have hne : gvR N x.key ≠ [] := fun e => by
            have := hs.1
            rw [e] at this; simp at this
          have hm := gvR_in hne
          rw [← hx] at hm hs
          exact ⟨hm, hs.2⟩
    · refine ⟨([], 1), ?_, ?_⟩
      · unfold m_mend_Take
        rw [e_right_t hokA hA, Option.bind_some, e_right_f hokT hT, gcall_s, Option.bind_some]; rfl
      · unfold m_firthref14_Take
        rw [e_Held_t hokA (by rw [lim_v]; omega) hA, Option.bind_some]
        simp only [Bool.not_true, cond_false]
        rw [e_Held_f hokT (by rw [lim_v]; omega) hT, Option.bind_some]; rfl
  · refine ⟨([], 1), ?_, ?_⟩
    · unfold m_mend_Take
      rw [e_right_f hokA hA, Option.bind_some]
      rcases all_or T with hT | hT
      · rw [e_right_t hokT hT, gcall_s, Option.bind_some]; rfl
      · rw [e_right_f hokT hT, gcall_s, Option.bind_some]; rfl
    · unfold m_firthref14_Take
      rw [e_Held_f hokA (by rw [lim_v]; omega) hA, Option.bind_some]; rfl
theorem keeps_law {own theirs : List Rec} (hokA : ∀ r ∈ own, RecOk r) (hlA : own.length ≤ 1048576) (hokT : ∀ r ∈ theirs, RecOk r) (hlT : theirs.length ≤ 1048576) : m_firthlaw14_MendKeeps own theirs = some true := by
  unfold m_firthlaw14_MendKeeps
  rw [awake14, Option.bind_some, Bool.not_true, cond_false, mine_loop own 0 [] hokA (by rw [lim_v, List.length_nil]; omega), List.nil_append]
  obtain ⟨z, h1, h2⟩ := e_TakeB hokA hlA hokT hlT
  rw [h1, Option.bind_some, Option.bind_some, h2, Option.bind_some, e_SameRecs, gcall_s, Option.bind_some, e_SameRecs, gcall_s, Option.bind_some]
  simp
theorem p_firthlaw14_MendKeeps {Γ : Gh} {Aown : Option Addr} {cown : Nat} {own : List Rec} (hown : Sl recT Γ Aown own) (hownc : own.length ≤ cown) {Atheirs : Option Addr} {ctheirs : Nat} {theirs : List Rec} (htheirs : Sl recT Γ Atheirs theirs) (htheirsc : theirs.length ≤ ctheirs) (hb : bkL Rec.bk own ≤ 1048576) (hb2 : bkL Rec.bk theirs ≤ 1048576) : m_firthlaw14_MendKeeps own theirs = some true :=
  keeps_law (sl_recOk hown) (recs_len hb) (sl_recOk htheirs) (recs_len hb2)
end Fw
end Go.Proofs.YtbidmceookkapaaGreat
