/- What Take comes to. No condition. -/
import Derived.Test.YtbidmceookkapaaGreatP26
namespace Go.Proofs.YtbidmceookkapaaGreat
namespace Fw
set_option linter.unusedVariables false
set_option linter.unusedSimpArgs false
set_option linter.unusedSectionVars false

theorem gvR_snoc_ne {L : List Rec} {r : Rec} {k : ByteArray} (h : r.key ≠ k) : gvR (L ++ [r]) k = gvR L k := by
  unfold gvR
  rw [List.find?_append]
  have : List.find? (fun x => x.key == k) [r] = none := by
    rw [List.find?_eq_none]; intro x hx; rw [List.mem_singleton] at hx; subst hx; simpa using h
  rw [this, Option.or_none]
theorem sr_take {L : List Rec} (h : SR L) (i : Nat) : SR (L.take i) := List.Pairwise.sublist (List.take_sublist i L) h
theorem take_ne {L : List Rec} (h : SR L) {i : Nat} (hi : i < L.length) : ∀ x ∈ L.take i, x.key ≠ (gt L i).key := by
  intro x hx e
  have h2 : SR (L.take i ++ [gt L i]) := by rw [← take_gt hi]; exact sr_take h _
  have := (List.pairwise_append.1 h2).2.2 x hx _ (List.mem_singleton.2 rfl)
  rw [ky_key.2 e] at this
  exact lt_irr _ this
/-- what comes of two sets: the first, where they can't be merged -/
def mg (x y : List Ver) : List Ver := bif ((r5Merge x y).2 == 0) then (r5Merge x y).1 else x
theorem mg_nil {x : List Ver} (h : r5Right x = true) : mg x [] = x := by
  unfold mg
  rw [merge_nil, h]; rfl
theorem mg_ok {x y : List Ver} (hx : VersOk x) (hy : VersOk y) : VersOk (mg x y) := by
  unfold mg
  cases (r5Merge x y).2 == 0
  · exact hx
  · exact merge_ok hx hy
theorem rr_right {r : Rec} (h : rr r = true) : r5Right r.vers = true := by
  unfold rr at h
  exact (Bool.and_eq_true_iff.1 h).2
theorem gvR_right {L : List Rec} (h : ∀ r ∈ L, rr r = true) (k : ByteArray) : r5Right (gvR L k) = true := by
  unfold gvR
  cases hf : L.find? (fun x => x.key == k) with
  | none => rfl
  | some x => exact rr_right (h x (List.mem_of_find?_eq_some hf))
/-- what Take's map holds -/
structure TM (A T : List Rec) (m : List (ByteArray × List Ver)) : Prop where
  nk : (m.map (·.1)).Nodup
  get : ∀ k, (mget k m).getD [] = mg (gvR A k) (gvR T k)
  key : ∀ p ∈ m, p.1 ∈ A.map (·.key) ++ T.map (·.key)
theorem e_heldK (l : List Rec) (hs : SR l) (hv : ∀ r ∈ l, r.vers ≠ []) : ∃ m, m_mend_held l = some m ∧ HeldM m l ∧ ∀ p ∈ m, p.1 ∈ l.map (·.key) := by
  unfold m_mend_held
  obtain ⟨m, h1, h2, h3⟩ := forI_ex (body := m_mend_held_b1) (k := fun m4 => some m4) (l := l) (s := ([] : List (ByteArray × (List Ver)))) (fun i m => HeldM m (addL (l.take i)) ∧ ∀ p ∈ m, p.1 ∈ l.map (·.key)) (fun m => HeldM m (addL l) ∧ ∀ p ∈ m, p.1 ∈ l.map (·.key)) (fun m h => ⟨m, rfl, by rw [List.take_length] at h; exact h.1, h.2⟩) (fun f i m hi h hf => by
    unfold m_mend_held_b1
    refine hf _ ⟨?_, fun p hp => ?_⟩
    · rw [take_gt hi, addL_snoc]; exact h.1.put (addL_sr _) _
    · rcases (mem_mput h.1.nk).1 hp with hp | ⟨hp, _⟩
      · subst hp; exact List.mem_map.2 ⟨_, gt_mem hi, rfl⟩
      · exact h.2 p hp) ⟨⟨List.nodup_nil, fun k => rfl⟩, fun p hp => absurd hp List.not_mem_nil⟩
  rw [addL_self hs hv] at h2
  exact ⟨m, h1, h2, h3⟩
def tkV (A T : List Rec) (k : ByteArray) : List Ver := mg (gvR A k) (gvR T k)
def tkC (A T : List Rec) (k : ByteArray) : Bool := decide (0 < ((((tkV A T k).length : Nat) : Int))) && !(r5Same (tkV A T k) (gvR A k))
theorem e_Take {A T : List Rec} (hokA : ∀ r ∈ A, RecOk r) (hrA : ∀ r ∈ A, rr r = true) (hsA : SR A) (hvA : ∀ r ∈ A, r.vers ≠ []) (hlA : A.length ≤ 4194304)
    (hokT : ∀ r ∈ T, RecOk r) (hrT : ∀ r ∈ T, rr r = true) (hsT : SR T) (hvT : ∀ r ∈ T, r.vers ≠ []) (hlT : T.length ≤ 4194304) :
    ∃ out, m_mend_Take A T = some (out, 0) ∧ SR out ∧ ∀ x, x ∈ out ↔ (x.vers = tkV A T x.key ∧ tkC A T x.key = true) := by
  unfold m_mend_Take
  rw [e_right_t hokA hrA, Option.bind_some, e_right_t hokT hrT, gcall_s, Option.bind_some]
  simp only [Bool.not_true, Bool.not_false, cond_true, Bool.or_self, cond_false]
  obtain ⟨m0, h1, h2, h3⟩ := e_heldK A hsA hvA
  rw [h1, Option.bind_some, Option.bind_some]
  obtain ⟨r, e1, out, e2, e3, e4⟩ := forI_ex (body := m_mend_Take_b4) (k := fun m29 => chk (decide (m29.length ≤ lim)) (forI (m_mend_Take_b9 m0 m29) (fun out_84 => some (out_84, (0 : Int))) 0 (skeys m29) [])) (l := T) (s := m0) (fun i m => TM A (T.take i) m) (fun r => ∃ out, r = (out, (0 : Int)) ∧ SR out ∧ ∀ x, x ∈ out ↔ (x.vers = tkV A T x.key ∧ tkC A T x.key = true)) (fun m hI => by
    rw [List.take_length] at hI
    have hlm : m.length ≤ A.length + T.length := by
      have := nodup_len hI.nk (l := A.map (·.key) ++ T.map (·.key)) (fun k hk => by
        obtain ⟨p, hp, rfl⟩ := List.mem_map.1 hk
        exact hI.key p hp)
      simpa using this
    rw [chk_t (decide_eq_true (by rw [lim_v]; omega))]
    have hkl : (skeys m).length = m.length := skeys_len m
    refine ⟨(((skeys m).filter (tkC A T)).map (fun k => (⟨k, tkV A T k⟩ : Rec)), 0), ?_, _, rfl, ?_, fun x => ?_⟩
    · refine forI_run (fun i out => out = (((skeys m).take i).filter (tkC A T)).map (fun k => (⟨k, tkV A T k⟩ : Rec))) (fun out h => by rw [h, List.take_length]) (fun f i out hi h hf => ?_) rfl
      have hol : out.length ≤ m.length := by
        rw [h, List.length_map, ← hkl]; exact filter_take_len _ _ _
      have hst := filter_take (tkC A T) hi
      unfold m_mend_Take_b9 m_mend_Take_j10
      have hg : (mget (gt (skeys m) i) m).getD [] = tkV A T (gt (skeys m) i) := hI.get _
      rw [hg, h2.get, e_vsSameL, sameL_eq, gcall_s, Option.bind_some]
      have hb : (decide (0 < (((tkV A T (gt (skeys m) i)).length : Nat) : Int)) && !(bif decide (0 < (((tkV A T (gt (skeys m) i)).length : Nat) : Int)) then r5Same (tkV A T (gt (skeys m) i)) (gvR A (gt (skeys m) i)) else default)) = tkC A T (gt (skeys m) i) := by
        unfold tkC
        cases decide (0 < (((tkV A T (gt (skeys m) i)).length : Nat) : Int)) <;> rfl
      rw [hb]
      cases hc : tkC A T (gt (skeys m) i) with
      | true =>
        rw [cond_true, chk_t (decide_eq_true (by rw [lim_v]; omega))]
        refine hf _ ?_
        rw [hst, hc, cond_true, List.map_append, ← h]; rfl
      | false =>
        rw [cond_false]
        refine hf _ ?_
        rw [hst, hc, cond_false, h]
    · unfold SR
      rw [List.pairwise_map]
      exact List.Pairwise.filter _ (skeys_srt hI.nk)
    · simp only [List.mem_map, List.mem_filter]
      constructor
      · rintro ⟨k, ⟨_, hk⟩, rfl⟩; exact ⟨rfl, hk⟩
      · rintro ⟨hx, hk⟩
        refine ⟨x.key, ⟨?_, hk⟩, by rw [← hx]⟩
        have hne : tkV A T x.key ≠ [] := fun e => by
          unfold tkC at hk
          rw [e] at hk; simp at hk
        rw [mem_skeys]
        cases hm : mget x.key m with
        | none => exact absurd (show mg (gvR A x.key) (gvR T x.key) = [] by rw [← hI.get, hm]; rfl) hne
        | some v => exact List.mem_map.2 ⟨_, mget_mem hm, rfl⟩) (fun f i m hi hI hf => by
    have hrm := gt_mem hi
    have hnone : gvR (T.take i) (gt T i).key = [] := gvR_none (take_ne hsT hi)
    have hself : gvR (T.take (i + 1)) (gt T i).key = (gt T i).vers := by
      have : gt T i ∈ T.take (i + 1) := by rw [take_gt hi]; exact List.mem_append_right _ (List.mem_singleton.2 rfl)
      exact gvR_mem (sr_take hsT _) this
    have hother : ∀ k, k ≠ (gt T i).key → gvR (T.take (i + 1)) k = gvR (T.take i) k := fun k hk => by
      rw [take_gt hi]; exact gvR_snoc_ne (fun e => hk e.symm)
    have hright := gvR_right hrA (gt T i).key
    have hcur : (mget (gt T i).key m).getD [] = gvR A (gt T i).key := by rw [hI.get, hnone, mg_nil hright]
    unfold m_mend_Take_b4 m_mend_Take_j5
    rw [hcur, e_Merge (gvR_ok hokA _) (hokT _ hrm).vers, Option.bind_some, merge_eq]
    have hkeys : ∀ p : ByteArray × List Ver, p.1 ∈ A.map (·.key) ++ (T.take i).map (·.key) → p.1 ∈ A.map (·.key) ++ (T.take (i + 1)).map (·.key) := fun p hp => by
      rcases List.mem_append.1 hp with h | h
      · exact List.mem_append_left _ h
      · rw [take_gt hi, List.map_append]; exact List.mem_append_right _ (List.mem_append_left _ h)
    cases hc : (r5Merge (gvR A (gt T i).key) (gt T i).vers).2 == 0 with
    | true =>
      rw [cond_true]
      refine hf _ ⟨mput_nodup hI.nk, fun k => ?_, fun p hp => ?_⟩
      · rw [mget_mput]
        by_cases hk : k = (gt T i).key
        · subst hk
          rw [if_pos rfl, hself]
          unfold mg
          rw [hc]; rfl
        · rw [if_neg hk, hother k hk]; exact hI.get k
      · rcases (mem_mput hI.nk).1 hp with h | ⟨h, _⟩
        · subst h
          refine List.mem_append_right _ (List.mem_map.2 ⟨gt T i, ?_, rfl⟩)
          rw [take_gt hi]; exact List.mem_append_right _ (List.mem_singleton.2 rfl)
        · exact hkeys p (hI.key p h)
    | false =>
      rw [cond_false]
      refine hf _ ⟨hI.nk, fun k => ?_, fun p hp => hkeys p (hI.key p hp)⟩
      by_cases hk : k = (gt T i).key
      · subst hk
        rw [hself, hcur]
        unfold mg
        rw [hc]; rfl
      · rw [hother k hk]; exact hI.get k) ⟨h2.nk, fun k => by
    rw [h2.get]
    show gvR A k = mg (gvR A k) []
    rw [mg_nil (gvR_right hrA k)], fun p hp => List.mem_append_left _ (h3 p hp)⟩
  subst e2
  exact ⟨out, e1, e3, e4⟩
end Fw
end Go.Proofs.YtbidmceookkapaaGreat
