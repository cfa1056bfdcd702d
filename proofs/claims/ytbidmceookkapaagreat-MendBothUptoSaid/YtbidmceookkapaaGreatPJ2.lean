/- The plain side: what the models come to. No condition. -/
import Derived.Test.YtbidmceookkapaaGreatPJ1
namespace Go.Proofs.YtbidmceookkapaaGreat
namespace Fw
set_option linter.unusedVariables false
set_option linter.unusedSimpArgs false
set_option linter.unusedSectionVars false

/-! ### merged twice -/
theorem merge_0 {a b : List Ver} (h : (r5Merge a b).2 = 0) : r5Right a = true ∧ r5Right b = true ∧ ¬ Twin a b ∧ (r5Merge a b).1 = r5Fold b a (r5Fold a b []) ∧ (r5Merge a b).1.length ≤ 512 := by
  have hlen := merge_len a b
  unfold r5Merge at h hlen ⊢
  cases ha : r5Right a with
  | false => rw [ha] at h; exact absurd (show (1 : Int) = 0 from h) (by decide)
  | true =>
    cases hb : r5Right b with
    | false => rw [ha, hb] at h; exact absurd (show (1 : Int) = 0 from h) (by decide)
    | true =>
      rw [ha, hb] at h hlen
      simp only [Bool.not_true, Bool.or_self, cond_false] at h hlen ⊢
      cases ht : r5Twin a b with
      | true => rw [ht] at h; exact absurd (show (50 : Int) = 0 from h) (by decide)
      | false =>
        rw [ht] at h hlen
        simp only [cond_false] at h hlen ⊢
        cases hl : decide ((512 : Int) < ((r5Fold b a (r5Fold a b [])).length : Int)) with
        | true => rw [hl] at h; exact absurd (show (3 : Int) = 0 from h) (by decide)
        | false =>
          rw [hl] at hlen
          simp only [cond_false] at hlen ⊢
          exact ⟨trivial, trivial, fun h => absurd (r5Twin_iff.2 h) (by rw [ht]; decide), trivial, hlen⟩
/-- no version of these came behind another one that doesn't stand under it -/
def PL (l : List Ver) : Prop := ∀ x ∈ l, ∀ z ∈ l, r3Has x.past z.dot = true → r3Has z.past x.dot = false ∧ ∀ d, r3Has z.past d = true → r3Has x.past d = true
theorem made_of {a b : List Ver} (ha : r5Right a = true) (hb : r5Right b = true) (ht : ¬ Twin a b) (hp : PL (a ++ b)) : Made (a ++ b) := by
  refine ⟨fun x hx z hz hd => ?_, hp⟩
  have sa := (right_iff ha).2.2
  have sb := (right_iff hb).2.2
  rcases List.mem_append.1 hx with hx | hx <;> rcases List.mem_append.1 hz with hz | hz
  · exact srt_inj sa hx hz hd
  · exact Classical.byContradiction fun h => ht ⟨x, hx, z, hz, hd, h⟩
  · exact Classical.byContradiction fun h => ht ⟨z, hz, x, hx, hd.symm, fun e => h e.symm⟩
  · exact srt_inj sb hx hz hd
theorem merged {a b : List Ver} (h : (r5Merge a b).2 = 0) : Srt (r5Merge a b).1 ∧ r5Right (r5Merge a b).1 = true ∧ ∀ y, y ∈ (r5Merge a b).1 ↔ (y ∈ a ∨ y ∈ b) ∧ r5Behind a y.dot = false ∧ r5Behind b y.dot = false := by
  obtain ⟨ha, hb, ht, he, hl⟩ := merge_0 h
  have hm := fun y => fold_mem ha hb ht (y := y)
  have hs : Srt (r5Fold b a (r5Fold a b [])) := fold_srt (fold_srt (by simp [Srt]))
  rw [he] at hl ⊢
  refine ⟨hs, right_of hl (fun x hx => ?_) hs, hm⟩
  obtain ⟨h1, h2, h3⟩ := (hm x).1 hx
  refine ⟨h1.elim (fun h => ((right_iff ha).2.1 x h).1) (fun h => ((right_iff hb).2.1 x h).1), ?_⟩
  rw [behind_f]
  intro z hz
  exact ((hm z).1 hz).1.elim (fun h => behind_f.1 h2 z h) (fun h => behind_f.1 h3 z h)
theorem twice {a b : List Ver} (h : (r5Merge a b).2 = 0) (hp : PL (a ++ b)) : (∀ c, c = a ∨ c = b → (r5Merge (r5Merge a b).1 c).2 = 0 → (r5Merge (r5Merge a b).1 c).1 = (r5Merge a b).1) := by
  intro c hc h2
  obtain ⟨ha, hb, ht, _, _⟩ := merge_0 h
  have hM := made_of ha hb ht hp
  have oa : Of (a ++ b) a := ⟨ha, fun x hx => List.mem_append_left _ hx⟩
  have ob : Of (a ++ b) b := ⟨hb, fun x hx => List.mem_append_right _ hx⟩
  obtain ⟨s1, r1, m1⟩ := merged h
  obtain ⟨s2, r2, m2⟩ := merged h2
  refine srt_ext s2 s1 fun y => ?_
  have hcov : ∀ y ∈ c, Cov (r5Merge a b).1 y := fun y hy => by
    rcases hc with rfl | rfl
    · exact cov_mem hM oa ob m1 hy
    · exact cov_mem hM ob oa (fun y => by rw [m1 y]; constructor <;> rintro ⟨h1, h2, h3⟩ <;> exact ⟨h1.symm, h3, h2⟩) hy
  have hnb : ∀ y, y ∈ (r5Merge a b).1 → r5Behind c y.dot = false := fun y hy => by
    rcases hc with rfl | rfl
    · exact ((m1 y).1 hy).2.1
    · exact ((m1 y).1 hy).2.2
  rw [m2 y]
  constructor
  · rintro ⟨h3 | h3, h4, h5⟩
    · exact h3
    · rcases hcov y h3 with h6 | h6
      · exact h6
      · rw [h4] at h6; cases h6
  · intro h3
    exact ⟨.inl h3, ((right_iff r1).2.1 y h3).2, hnb y h3⟩
theorem self_merge {a : List Ver} (h2 : (r5Merge a a).2 = 0) : (r5Merge a a).1 = a := by
  obtain ⟨ha, _, _, _, _⟩ := merge_0 h2
  obtain ⟨s2, r2, m2⟩ := merged h2
  refine srt_ext s2 (right_iff ha).2.2 fun y => ?_
  rw [m2 y]
  constructor
  · rintro ⟨h3 | h3, _⟩ <;> exact h3
  · intro h3
    have := ((right_iff ha).2.1 y h3).2
    exact ⟨.inl h3, this, this⟩
end Fw
end Go.Proofs.YtbidmceookkapaaGreat

namespace Go.Proofs.YtbidmceookkapaaGreat
namespace Fw
set_option linter.unusedVariables false
set_option linter.unusedSimpArgs false
set_option linter.unusedSectionVars false

theorem gvR_snoc_ne {L : List Rec} {r : Rec} {k : ByteArray} (h : r.key ≠ k) : gvR (L ++ [r]) k = gvR L k := by
  unfold gvR
  rw [List.find?_append]
  have : List.find? (fun x => x.key == k) [r] = none := by
    rw [List.find?_eq_none]; intro x hx; rw [List.mem_singleton] at hx; subst hx; simpa using h
  rw [this, Option.or_none]
theorem sr_take {L : List Rec} (h : SR L) (i : Nat) : SR (L.take i) := List.Pairwise.sublist (List.take_sublist i L) h
theorem take_ne {L : List Rec} (h : SR L) {i : Nat} (hi : i < L.length) : ∀ x ∈ L.take i, x.key ≠ (gt L i).key := by
  intro x hx e
  have h2 : SR (L.take i ++ [gt L i]) := by rw [← take_gt hi]; exact sr_take h _
  have := (List.pairwise_append.1 h2).2.2 x hx _ (List.mem_singleton.2 rfl)
  rw [ky_key.2 e] at this
  exact lt_irr _ this
/-- what comes of two sets: the first, where they can't be merged -/
def mg (x y : List Ver) : List Ver := bif ((r5Merge x y).2 == 0) then (r5Merge x y).1 else x
theorem mg_nil {x : List Ver} (h : r5Right x = true) : mg x [] = x := by
  unfold mg
  rw [merge_nil, h]; rfl
theorem rr_right {r : Rec} (h : rr r = true) : r5Right r.vers = true := by
  unfold rr at h
  exact (Bool.and_eq_true_iff.1 h).2
theorem gvR_right {L : List Rec} (h : ∀ r ∈ L, rr r = true) (k : ByteArray) : r5Right (gvR L k) = true := by
  unfold gvR
  cases hf : L.find? (fun x => x.key == k) with
  | none => rfl
  | some x => exact rr_right (h x (List.mem_of_find?_eq_some hf))
/-- what Take's map holds -/
structure TM (A T : List Rec) (m : List (ByteArray × List Ver)) : Prop where
  nk : (m.map (·.1)).Nodup
  get : ∀ k, (mget k m).getD [] = mg (gvR A k) (gvR T k)
  key : ∀ p ∈ m, p.1 ∈ A.map (·.key) ++ T.map (·.key)
theorem e_heldK (l : List Rec) (hs : SR l) (hv : ∀ r ∈ l, r.vers ≠ []) : ∃ m, m_mend_held l = some m ∧ HeldM m l ∧ ∀ p ∈ m, p.1 ∈ l.map (·.key) := by
  unfold m_mend_held
  obtain ⟨m, h1, h2, h3⟩ := forI_ex (body := m_mend_held_b1) (k := fun m4 => some m4) (l := l) (s := ([] : List (ByteArray × (List Ver)))) (fun i m => HeldM m (addL (l.take i)) ∧ ∀ p ∈ m, p.1 ∈ l.map (·.key)) (fun m => HeldM m (addL l) ∧ ∀ p ∈ m, p.1 ∈ l.map (·.key)) (fun m h => ⟨m, rfl, by rw [List.take_length] at h; exact h.1, h.2⟩) (fun f i m hi h hf => by
    unfold m_mend_held_b1
    refine hf _ ⟨?_, fun p hp => ?_⟩
    · rw [take_gt hi, addL_snoc]; exact h.1.put (addL_sr _) _
    · rcases (mem_mput h.1.nk).1 hp with hp | ⟨hp, _⟩
      · subst hp; exact List.mem_map.2 ⟨_, gt_mem hi, rfl⟩
      · exact h.2 p hp) ⟨⟨List.nodup_nil, fun k => rfl⟩, fun p hp => absurd hp List.not_mem_nil⟩
  rw [addL_self hs hv] at h2
  exact ⟨m, h1, h2, h3⟩
def tkV (A T : List Rec) (k : ByteArray) : List Ver := mg (gvR A k) (gvR T k)
def tkC (A T : List Rec) (k : ByteArray) : Bool := decide (0 < ((((tkV A T k).length : Nat) : Int))) && !(r5Same (tkV A T k) (gvR A k))
theorem e_Take {A T : List Rec} (hokA : ∀ r ∈ A, RecOk r) (hrA : ∀ r ∈ A, rr r = true) (hsA : SR A) (hvA : ∀ r ∈ A, r.vers ≠ []) (hlA : A.length ≤ 4194304)
    (hokT : ∀ r ∈ T, RecOk r) (hrT : ∀ r ∈ T, rr r = true) (hsT : SR T) (hvT : ∀ r ∈ T, r.vers ≠ []) (hlT : T.length ≤ 4194304) :
    ∃ out, m_mend_Take A T = some (out, 0) ∧ SR out ∧ ∀ x, x ∈ out ↔ (x.vers = tkV A T x.key ∧ tkC A T x.key = true) := by
  unfold m_mend_Take
  rw [e_right_t hokA hrA, Option.bind_some, e_right_t hokT hrT, gcall_s, Option.bind_some]
  simp only [Bool.not_true, Bool.not_false, cond_true, Bool.or_self, cond_false]
  obtain ⟨m0, h1, h2, h3⟩ := e_heldK A hsA hvA
  rw [h1, Option.bind_some, Option.bind_some]
  obtain ⟨r, e1, out, e2, e3, e4⟩ := forI_ex (body := m_mend_Take_b4) (k := fun m29 => chk (decide (m29.length ≤ lim)) (forI (m_mend_Take_b9 m0 m29) (fun out_84 => some (out_84, (0 : Int))) 0 (skeys m29) [])) (l := T) (s := m0) (fun i m => TM A (T.take i) m) (fun r => ∃ out, r = (out, (0 : Int)) ∧ SR out ∧ ∀ x, x ∈ out ↔ (x.vers = tkV A T x.key ∧ tkC A T x.key = true)) (fun m hI => by
    rw [List.take_length] at hI
    have hlm : m.length ≤ A.length + T.length := by
      have := nodup_len hI.nk (l := A.map (·.key) ++ T.map (·.key)) (fun k hk => by
        obtain ⟨p, hp, rfl⟩ := List.mem_map.1 hk
        exact hI.key p hp)
      simpa using this
    rw [chk_t (decide_eq_true (by rw [lim_v]; omega))]
    have hkl : (skeys m).length = m.length := skeys_len m
    refine ⟨(((skeys m).filter (tkC A T)).map (fun k => (⟨k, tkV A T k⟩ : Rec)), 0), ?_, _, rfl, ?_, fun x => ?_⟩
    · refine forI_run (fun i out => out = (((skeys m).take i).filter (tkC A T)).map (fun k => (⟨k, tkV A T k⟩ : Rec))) (fun out h => by rw [h, List.take_length]) (fun f i out hi h hf => ?_) rfl
      have hol : out.length ≤ m.length := by
        rw [h, List.length_map, ← hkl]; exact filter_take_len _ _ _
      have hst := filter_take (tkC A T) hi
      unfold m_mend_Take_b9 m_mend_Take_j10
      have hg : (mget (gt (skeys m) i) m).getD [] = tkV A T (gt (skeys m) i) := hI.get _
      rw [hg, h2.get, e_vsSameL, sameL_eq, gcall_s, Option.bind_some]
      have hb : (decide (0 < (((tkV A T (gt (skeys m) i)).length : Nat) : Int)) && !(bif decide (0 < (((tkV A T (gt (skeys m) i)).length : Nat) : Int)) then r5Same (tkV A T (gt (skeys m) i)) (gvR A (gt (skeys m) i)) else default)) = tkC A T (gt (skeys m) i) := by
        unfold tkC
        cases decide (0 < (((tkV A T (gt (skeys m) i)).length : Nat) : Int)) <;> rfl
      rw [hb]
      cases hc : tkC A T (gt (skeys m) i) with
      | true =>
        rw [cond_true, chk_t (decide_eq_true (by rw [lim_v]; omega))]
        refine hf _ ?_
        rw [hst, hc, cond_true, List.map_append, ← h]; rfl
      | false =>
        rw [cond_false]
        refine hf _ ?_
        rw [hst, hc, cond_false, h]
    · unfold SR
      rw [List.pairwise_map]
      exact List.Pairwise.filter _ (skeys_srt hI.nk)
    · simp only [List.mem_map, List.mem_filter]
      constructor
      · rintro ⟨k, ⟨_, hk⟩, rfl⟩; exact ⟨rfl, hk⟩
      · rintro ⟨hx, hk⟩
        refine ⟨x.key, ⟨?_, hk⟩, by rw [← hx]⟩
        have hne : tkV A T x.key ≠ [] := fun e => by
          unfold tkC at hk
          rw [e] at hk; simp at hk
        rw [mem_skeys]
        cases hm : mget x.key m with
        | none => exact absurd (show mg (gvR A x.key) (gvR T x.key) = [] by rw [← hI.get, hm]; rfl) hne
        | some v => exact List.mem_map.2 ⟨_, mget_mem hm, rfl⟩) (fun f i m hi hI hf => by
    have hrm := gt_mem hi
    have hnone : gvR (T.take i) (gt T i).key = [] := gvR_none (take_ne hsT hi)
    have hself : gvR (T.take (i + 1)) (gt T i).key = (gt T i).vers := by
      have : gt T i ∈ T.take (i + 1) := by rw [take_gt hi]; exact List.mem_append_right _ (List.mem_singleton.2 rfl)
      exact gvR_mem (sr_take hsT _) this
    have hother : ∀ k, k ≠ (gt T i).key → gvR (T.take (i + 1)) k = gvR (T.take i) k := fun k hk => by
      rw [take_gt hi]; exact gvR_snoc_ne (fun e => hk e.symm)
    have hright := gvR_right hrA (gt T i).key
    have hcur : (mget (gt T i).key m).getD [] = gvR A (gt T i).key := by rw [hI.get, hnone, mg_nil hright]
    unfold m_mend_Take_b4 m_mend_Take_j5
    rw [hcur, e_Merge (gvR_ok hokA _) (hokT _ hrm).vers, Option.bind_some, merge_eq]
    have hkeys : ∀ p : ByteArray × List Ver, p.1 ∈ A.map (·.key) ++ (T.take i).map (·.key) → p.1 ∈ A.map (·.key) ++ (T.take (i + 1)).map (·.key) := fun p hp => by
      rcases List.mem_append.1 hp with h | h
      · exact List.mem_append_left _ h
      · rw [take_gt hi, List.map_append]; exact List.mem_append_right _ (List.mem_append_left _ h)
    cases hc : (r5Merge (gvR A (gt T i).key) (gt T i).vers).2 == 0 with
    | true =>
      rw [cond_true]
      refine hf _ ⟨mput_nodup hI.nk, fun k => ?_, fun p hp => ?_⟩
      · rw [mget_mput]
        by_cases hk : k = (gt T i).key
        · subst hk
          rw [if_pos rfl, hself]
          unfold mg
          rw [hc]; rfl
        · rw [if_neg hk, hother k hk]; exact hI.get k
      · rcases (mem_mput hI.nk).1 hp with h | ⟨h, _⟩
        · subst h
          refine List.mem_append_right _ (List.mem_map.2 ⟨gt T i, ?_, rfl⟩)
          rw [take_gt hi]; exact List.mem_append_right _ (List.mem_singleton.2 rfl)
        · exact hkeys p (hI.key p h)
    | false =>
      rw [cond_false]
      refine hf _ ⟨hI.nk, fun k => ?_, fun p hp => hkeys p (hI.key p hp)⟩
      by_cases hk : k = (gt T i).key
      · subst hk
        rw [hself, hcur]
        unfold mg
        rw [hc]; rfl
      · rw [hother k hk]; exact hI.get k) ⟨h2.nk, fun k => by
    rw [h2.get]
    show gvR A k = mg (gvR A k) []
    rw [mg_nil (gvR_right hrA k)], fun p hp => List.mem_append_left _ (h3 p hp)⟩
  subst e2
  exact ⟨out, e1, e3, e4⟩
end Fw
end Go.Proofs.YtbidmceookkapaaGreat

namespace Go.Proofs.YtbidmceookkapaaGreat
namespace Fw
set_option linter.unusedVariables false
set_option linter.unusedSimpArgs false
set_option linter.unusedSectionVars false

/-! ### plain -/
theorem e_under (a b : Ver) : m_firthlaw14_under a b = some (underM a.past b.past) := by
  unfold m_firthlaw14_under underM
  refine forI_inv (fun i _ => some ((a.past.drop i).all (fun x => b.past.any (fun y => ((x.s == y.s) && (decide (y.f ≤ x.f))) && (decide (x.t ≤ y.t)))))) (fun _ _ => True) (fun s _ => ?_) (fun f i s hi _ hf => ?_) trivial
  · rw [List.drop_of_length_le (Nat.le_refl _)]; rfl
  · unfold m_firthlaw14_under_b4
    have := forI_inv (body := m_firthlaw14_under_b5 a i) (k := fun in_8 => (bif (!in_8) then (some false) else (f ()))) (l := b.past)
      (fun j s => bif (!(s || (b.past.drop j).any (fun y => (((gt a.past i).s == y.s) && (decide (y.f ≤ (gt a.past i).f))) && (decide ((gt a.past i).t ≤ y.t))))) then some false else f ()) (fun _ _ => True) (fun s _ => ?_) (fun g j s hj _ hg => ?_) (s := false) trivial
    · rw [this, drop_gt hi, List.all_cons, hf () trivial, List.drop_zero, Bool.false_or]
      cases b.past.any (fun y => (((gt a.past i).s == y.s) && (decide (y.f ≤ (gt a.past i).f))) && (decide ((gt a.past i).t ≤ y.t))) <;> rfl
    · rw [List.drop_of_length_le (Nat.le_refl _), List.any_nil, Bool.or_false]
    · unfold m_firthlaw14_under_b5
      rw [hg _ trivial, drop_gt hj, List.any_cons, Bool.or_assoc]
def pTwo (x z : Ver) : Bool := !(r3Has x.past z.dot && (r3Has z.past x.dot || !(underM z.past x.past)))
theorem behind_one (x : Ver) (d : Dot) : r5Behind [x] d = r3Has x.past d := by
  show (bif r3Has x.past d then _ else _) = _ <;> cases r3Has x.past d <;> rfl
theorem e_plain {a b : List Ver} (h : a.length + b.length ≤ lim) : ∃ p, m_firthlaw14_plain a b = some p ∧ (p = true → PL (a ++ b)) := by
  unfold m_firthlaw14_plain
  rw [chk_t (decide_eq_true (by omega)), chk_t (decide_eq_true h)]
  rw [forI_all (p := fun i => allFrom (fun j => pTwo (gt (a ++ b) i) (gt (a ++ b) j)) 0 (a ++ b).length) (r := some false) (fun f i hi => ?_)]
  · refine ⟨allFrom (fun i => allFrom (fun j => pTwo (gt (a ++ b) i) (gt (a ++ b) j)) 0 (a ++ b).length) 0 (a ++ b).length, ?_, fun hp => ?_⟩
    · cases allFrom (fun i => allFrom (fun j => pTwo (gt (a ++ b) i) (gt (a ++ b) j)) 0 (a ++ b).length) 0 (a ++ b).length <;> rfl
    · intro x hx z hz hxz
      obtain ⟨i, hi, rfl⟩ := mem_gt hx
      obtain ⟨j, hj, rfl⟩ := mem_gt hz
      rw [all0_iff] at hp
      have h1 := hp i hi
      rw [all0_iff] at h1
      have h2 := h1 j hj
      unfold pTwo at h2
      rw [hxz] at h2
      simp only [Bool.true_and, Bool.not_eq_true', Bool.or_eq_false_iff, Bool.not_eq_false'] at h2
      exact ⟨h2.1, fun d h => under_has h2.2 h⟩
  · unfold m_firthlaw14_plain_b5
    rw [forI_all (p := fun j => pTwo (gt (a ++ b) i) (gt (a ++ b) j)) (r := some false) (fun g j hj => ?_)]
    unfold m_firthlaw14_plain_b6
    rw [chk_t (decide_eq_true (by omega)), cut_one hi, cut_one hj, e_r5Behind, Option.bind_some, behind_one, e_r5Behind, behind_one, e_under]
    unfold pTwo
    have hj1 : decide (j + 1 ≤ (a ++ b).length) = true := decide_eq_true (by omega)
    rw [hj1]
    cases r3Has (gt (a ++ b) i).past (gt (a ++ b) j).dot <;> cases r3Has (gt (a ++ b) j).past (gt (a ++ b) i).dot <;> cases underM (gt (a ++ b) j).past (gt (a ++ b) i).past <;> rfl

/-! ### both -/
theorem e_both {A T : List Rec} (hokA : ∀ r ∈ A, RecOk r) (hrA : ∀ r ∈ A, rr r = true) (hsA : SR A) (hlA : A.length ≤ 4194304) (hokT : ∀ r ∈ T, RecOk r) (hsT : SR T) (hlT : T.length ≤ 4194304) :
    ∃ r, m_firthlaw14_both A T = some r ∧ (r.2 = true → ∀ k, (r5Merge (gvR A k) (gvR T k)).2 = 0) := by
  unfold m_firthlaw14_both
  refine forI_ex (fun i out => SR out ∧ out.length ≤ A.length + i ∧ (∀ k, gvR out k = mg (gvR A k) (gvR (T.take i) k)) ∧ ∀ k, (r5Merge (gvR A k) (gvR (T.take i) k)).2 = 0) (fun r : List Rec × Bool => r.2 = true → ∀ k, (r5Merge (gvR A k) (gvR T k)).2 = 0) (fun out hI => ⟨_, rfl, fun _ => by have := hI.2.2.2; rw [List.take_length] at this; exact this⟩) (fun f i out hi hI hf => ?_) ⟨hsA, Nat.le_refl _, fun k => ?_, fun k => ?_⟩
  · obtain ⟨h1, h2, h3, h4⟩ := hI
    have hrm := gt_mem hi
    have hnone : gvR (T.take i) (gt T i).key = [] := gvR_none (take_ne hsT hi)
    have hself : gvR (T.take (i + 1)) (gt T i).key = (gt T i).vers := by
      have : gt T i ∈ T.take (i + 1) := by rw [take_gt hi]; exact List.mem_append_right _ (List.mem_singleton.2 rfl)
      exact gvR_mem (sr_take hsT _) this
    have hother : ∀ k, k ≠ (gt T i).key → gvR (T.take (i + 1)) k = gvR (T.take i) k := fun k hk => by
      rw [take_gt hi]; exact gvR_snoc_ne (fun e => hk e.symm)
    have hcur : gvR out (gt T i).key = gvR A (gt T i).key := by rw [h3, hnone, mg_nil (gvR_right hrA _)]
    unfold m_firthlaw14_both_b1
    rw [e_Get, Option.bind_some, hcur, e_r5Merge (gvR_ok hokA _) (hokT _ hrm).vers, Option.bind_some]
    cases hc : (r5Merge (gvR A (gt T i).key) (gt T i).vers).2 != 0 with
    | true => exact ⟨_, rfl, fun h => absurd h (by decide)⟩
    | false =>
      have hc0 : (r5Merge (gvR A (gt T i).key) (gt T i).vers).2 = 0 := by simpa using hc
      rw [cond_false, e_With (by rw [lim_v]; omega), Option.bind_some]
      have hwl := withr_len out ⟨(gt T i).key, (r5Merge (gvR A (gt T i).key) (gt T i).vers).1⟩
      refine hf _ ⟨sr_withr h1, by omega, fun k => ?_, fun k => ?_⟩
      · rw [gvR_withr h1]
        by_cases hk : k = (gt T i).key
        · subst hk
          rw [if_pos rfl, hself]
          unfold mg
          rw [hc0]; rfl
        · rw [if_neg hk, hother k hk]; exact h3 k
      · by_cases hk : k = (gt T i).key
        · subst hk; rw [hself]; exact hc0
        · rw [hother k hk]; exact h4 k
  · show gvR A k = mg (gvR A k) []
    rw [mg_nil (gvR_right hrA k)]
  · show (r5Merge (gvR A k) []).2 = 0
    rw [merge_nil, gvR_right hrA k]; rfl

/-! ### laid -/
theorem gv_laid : ∀ {out acc : List Rec} {k : ByteArray}, SR out → SR acc → gvR (out.foldl withr acc) k = if (∃ x ∈ out, x.key = k) then gvR out k else gvR acc k
  | [], acc, k, _, _ => by rw [if_neg (by rintro ⟨x, hx, _⟩; cases hx)]; rfl
  | x :: l, acc, k, ho, ha => by
    have ho2 := ho
    unfold SR at ho2
    rw [List.pairwise_cons] at ho2
    rw [List.foldl_cons, gv_laid ho2.2 (sr_withr ha), gvR_withr ha]
    by_cases hl : ∃ y ∈ l, y.key = k
    · obtain ⟨y, hy, he⟩ := hl
      have hne : ¬ x.key = k := fun e => by
        have := ho2.1 y hy
        rw [ky_key.2 (e.trans he.symm)] at this
        exact lt_irr _ this
      rw [if_pos ⟨y, hy, he⟩, if_pos ⟨y, List.mem_cons_of_mem _ hy, he⟩, gvR_cons, show (x.key == k) = false by simpa using hne, cond_false]
    · rw [if_neg hl]
      by_cases hx : k = x.key
      · subst hx
        rw [if_pos rfl, if_pos ⟨x, List.mem_cons_self, rfl⟩, gvR_cons, show (x.key == x.key) = true by simp, cond_true]
      · rw [if_neg hx, if_neg]
        rintro ⟨y, hy, he⟩
        rcases List.mem_cons.1 hy with h | h
        · subst h; exact hx he.symm
        · exact hl ⟨y, h, he⟩
theorem gvR_ne {L : List Rec} {k : ByteArray} (h : gvR L k ≠ []) : ∃ x ∈ L, x.key = k := by
  rcases Classical.em (∃ x ∈ L, x.key = k) with h2 | h2
  · exact h2
  · exact absurd (gvR_none fun x hx he => h2 ⟨x, hx, he⟩) h
theorem tkC_ne {A T : List Rec} {k : ByteArray} (h : tkC A T k = true) : tkV A T k ≠ [] ∧ tkV A T k ≠ gvR A k := by
  unfold tkC at h
  rw [Bool.and_eq_true_iff] at h
  refine ⟨fun e => ?_, fun e => ?_⟩
  · rw [e] at h; have := h.1; simp at this
  · rw [r5Same_iff.2 e] at h; cases h.2
theorem tkV_key {A T : List Rec} {k : ByteArray} (h : tkV A T k ≠ []) : ∃ x, (x ∈ A ∨ x ∈ T) ∧ x.key = k := by
  by_cases h1 : gvR A k = []
  · by_cases h2 : gvR T k = []
    · refine absurd ?_ h
      unfold tkV
      rw [h1, h2, mg_nil rfl]
    · obtain ⟨x, hx, he⟩ := gvR_ne h2; exact ⟨x, .inr hx, he⟩
  · obtain ⟨x, hx, he⟩ := gvR_ne h1; exact ⟨x, .inl hx, he⟩
theorem sr_keys {L : List Rec} (h : SR L) : (L.map (·.key)).Nodup := by
  unfold SR at h
  rw [List.nodup_iff_pairwise_ne, List.pairwise_map]
  exact h.imp fun {a b} h e => by rw [ky_key.2 e] at h; exact lt_irr _ h
end Fw
end Go.Proofs.YtbidmceookkapaaGreat

namespace Go.Proofs.YtbidmceookkapaaGreat
namespace Fw
set_option linter.unusedVariables false
set_option linter.unusedSimpArgs false
set_option linter.unusedSectionVars false

end Fw
end Go.Proofs.YtbidmceookkapaaGreat

namespace Go.Proofs.YtbidmceookkapaaGreat
namespace Fw
set_option linter.unusedVariables false
set_option linter.unusedSimpArgs false
set_option linter.unusedSectionVars false

theorem e_SameRecs2 (a b : List Rec) : ∃ p, m_firthref06_SameRecs a b = some p ∧ (p = true ↔ a = b) := by
  unfold m_firthref06_SameRecs
  by_cases hl : a.length = b.length
  · rw [nat_f hl, cond_false, forI_all (p := fun i => ((gt a i).key == (gt b i).key) && r5Same (gt a i).vers (gt b i).vers) (r := some false) (fun f i hi => ?_)]
    · refine ⟨allFrom (fun i => ((gt a i).key == (gt b i).key) && r5Same (gt a i).vers (gt b i).vers) 0 a.length, ?_, ?_⟩
      · cases allFrom (fun i => ((gt a i).key == (gt b i).key) && r5Same (gt a i).vers (gt b i).vers) 0 a.length <;> rfl
      · rw [all0_iff]
        constructor
        · intro h
          refine gt_ext hl fun i hi => ?_
          have := h i hi
          rw [Bool.and_eq_true_iff] at this
          have h1 : (gt a i).key = (gt b i).key := by simpa using this.1
          have h2 := r5Same_iff.1 this.2
          cases hx : gt a i
          cases hy : gt b i
          rw [hx, hy] at h1 h2
          simp only at h1 h2
          rw [h1, h2]
        · rintro rfl i _
          rw [r5Same_iff.2 rfl]; simp
    · unfold m_firthref06_SameRecs_b1
      rw [chk_t (decide_eq_true (by omega)), e_r5Same, gcall_s, Option.bind_some]
      have : ((gt a i).key != (gt b i).key) = !((gt a i).key == (gt b i).key) := rfl
      rw [this]
      cases (gt a i).key == (gt b i).key <;> cases r5Same (gt a i).vers (gt b i).vers <;> rfl
  · rw [nat_t hl]
    exact ⟨false, rfl, by constructor <;> intro h; cases h; exact absurd (by rw [h]) hl⟩
/-- no unlike records beneath a place of one hash -/
theorem e_doubt {x y : List Rec} (hx : Rcs x) (hy : Rcs y) (path : List Int) : ∃ p, m_firthref14_doubt x y path = some p ∧ (p = false → Hs x path = Hs y path → rcV x path = rcV y path) := by
  unfold m_firthref14_doubt
  rw [e_rH hx, Option.bind_some, e_rH hy, Option.bind_some]
  cases hc : Hs x path == Hs y path with
  | false => exact ⟨false, rfl, fun _ h => by rw [beq_eq_false_iff_ne] at hc; exact absurd h hc⟩
  | true =>
    rw [cond_true, e_rRecs hx.len, Option.bind_some, e_rRecs hy.len, Option.bind_some]
    obtain ⟨p, h1, h2⟩ := e_SameRecs2 (rcV x path) (rcV y path)
    have h1' : m_firthref06_SameRecs (bif okP path then x.filter (inP path) else []) (bif okP path then y.filter (inP path) else []) = some p := h1
    rw [h1', Option.bind_some]
    refine ⟨!p, rfl, fun hp _ => h2.1 ?_⟩
    cases p
    · cases hp
    · rfl
theorem e_Doubt {a b : List Rec} (hoka : ∀ r ∈ a, RecOk r) (hla : a.length ≤ 1048576) (hra : ∀ r ∈ a, rr r = true) (haa : addL a = a) (hokb : ∀ r ∈ b, RecOk r) (hlb : b.length ≤ 1048576) (hrb : ∀ r ∈ b, rr r = true) (hbb : addL b = b) :
    ∃ p, m_firthref14_Doubt a b = some p ∧ (p = false → (∀ i, i < 16 → Hs a [((i : Nat) : Int)] = Hs b [((i : Nat) : Int)] → rcV a [((i : Nat) : Int)] = rcV b [((i : Nat) : Int)]) ∧ ∀ i j, i < 16 → j < 16 → Hs a [((i : Nat) : Int), ((j : Nat) : Int)] = Hs b [((i : Nat) : Int), ((j : Nat) : Int)] → rcV a [((i : Nat) : Int), ((j : Nat) : Int)] = rcV b [((i : Nat) : Int), ((j : Nat) : Int)]) := by
  have hx : Rcs a := ⟨fun r h => ⟨hoka r h, hra r h⟩, by omega⟩
  have hy : Rcs b := ⟨fun r h => ⟨hokb r h, hrb r h⟩, by omega⟩
  unfold m_firthref14_Doubt
  rw [e_Held_t hoka (by rw [lim_v]; omega) hra, Option.bind_some, e_Held_t hokb (by rw [lim_v]; omega) hrb, Option.bind_some, haa, hbb]
  simp only
  obtain ⟨p0, h0, _⟩ := e_doubt hx hy []
  rw [h0, Option.bind_some]
  cases p0 with
  | true => exact ⟨true, rfl, fun h => by cases h⟩
  | false =>
    rw [cond_false]
    have hd := fun path => (e_doubt hx hy path)
    let D : List Int → Bool := fun path => (m_firthref14_doubt a b path).getD true
    have hD : ∀ path, m_firthref14_doubt a b path = some (D path) := fun path => by
      obtain ⟨p, h1, _⟩ := hd path
      show _ = some ((m_firthref14_doubt a b path).getD true)
      rw [h1]; rfl
    have hD2 : ∀ path, D path = false → Hs a path = Hs b path → rcV a path = rcV b path := fun path h => by
      obtain ⟨p, h1, h2⟩ := hd path
      have : D path = p := by show (m_firthref14_doubt a b path).getD true = p; rw [h1]; rfl
      exact h2 (by rw [← this]; exact h)
    rw [forU_all (p := fun i => !(D [((i : Nat) : Int)]) && allFrom (fun j => !(D [((i : Nat) : Int), ((j : Nat) : Int)])) 0 16) (r := some true) (fun f i hi => ?_)]
    · refine ⟨!(allFrom (fun i => !(D [((i : Nat) : Int)]) && allFrom (fun j => !(D [((i : Nat) : Int), ((j : Nat) : Int)])) 0 16) 0 16), ?_, fun hp => ?_⟩
      · cases allFrom (fun i => !(D [((i : Nat) : Int)]) && allFrom (fun j => !(D [((i : Nat) : Int), ((j : Nat) : Int)])) 0 16) 0 16 <;> rfl
      · have hp' : allFrom (fun i => !(D [((i : Nat) : Int)]) && allFrom (fun j => !(D [((i : Nat) : Int), ((j : Nat) : Int)])) 0 16) 0 16 = true := by simpa using hp
        rw [all0_iff] at hp'
        refine ⟨fun i hi => hD2 _ ?_, fun i j hi hj => hD2 _ ?_⟩
        · have := hp' i hi
          rw [Bool.and_eq_true_iff] at this
          simpa using this.1
        · have := hp' i hi
          rw [Bool.and_eq_true_iff, all0_iff] at this
          simpa using this.2 j hj
    · unfold m_firthref14_Doubt_b4
      simp only
      rw [hD, Option.bind_some]
      cases D [((i : Nat) : Int)] with
      | true => rfl
      | false =>
        rw [cond_false, forU_all (p := fun j => !(D [((i : Nat) : Int), ((j : Nat) : Int)])) (r := some true) (fun g j hj => ?_)]
        · rfl
        · unfold m_firthref14_Doubt_b5
          simp only
          rw [hD, Option.bind_some]
          cases D [((i : Nat) : Int), ((j : Nat) : Int)] <;> rfl
/-- what is written -/
theorem e_written {a b : List Rec} (hsa : SR a) (hra : ∀ r ∈ a, rr r = true) (hrb : ∀ r ∈ b, rr r = true) : ∃ p, m_firthlaw14_written a b = some p ∧ (p = true → ∀ r ∈ a, (gvR a r.key).length + (gvR b r.key).length ≤ 512 ∧ PL (gvR a r.key ++ gvR b r.key)) := by
  unfold m_firthlaw14_written
  refine forI_ex (fun i _ => ∀ j, j < i → (gvR a (gt a j).key).length + (gvR b (gt a j).key).length ≤ 512 ∧ PL (gvR a (gt a j).key ++ gvR b (gt a j).key)) (fun p : Bool => p = true → ∀ r ∈ a, (gvR a r.key).length + (gvR b r.key).length ≤ 512 ∧ PL (gvR a r.key ++ gvR b r.key)) (fun _ hI => ⟨true, rfl, fun _ r hr => by
    obtain ⟨j, hj, rfl⟩ := mem_gt hr
    exact hI j hj⟩) (fun f i s hi hI hf => ?_) (fun j hj => absurd hj (Nat.not_lt_zero _))
  have hm := gt_mem hi
  have hA : gvR a (gt a i).key = (gt a i).vers := gvR_mem hsa hm
  have h1 := r5Right_len (rr_right (hra _ hm))
  have h2 := r5Right_len (gvR_right hrb (gt a i).key)
  unfold m_firthlaw14_written_b1
  rw [e_Get, Option.bind_some, Option.bind_some, w64_i (by unfold I64; omega)]
  cases hc : decide (512 < (((gt a i).vers.length : Nat) : Int) + ((gvR b (gt a i).key).length : Nat)) with
  | true => exact ⟨false, rfl, fun h => by cases h⟩
  | false =>
    have hc' := of_decide_eq_false hc
    rw [Bool.not_false, cond_true, Option.bind_some]
    obtain ⟨p, hp1, hp2⟩ := e_plain (a := (gt a i).vers) (b := gvR b (gt a i).key) (by rw [lim_v]; omega)
    rw [hp1, gcall_s, Option.bind_some, cond_true]
    cases p with
    | false => exact ⟨false, rfl, fun h => by cases h⟩
    | true =>
      rw [Bool.not_true, cond_false]
      refine hf () fun j hj => ?_
      by_cases e : j = i
      · subst e
        rw [hA]
        exact ⟨by omega, hp2 rfl⟩
      · exact hI j (by omega)
end Fw
end Go.Proofs.YtbidmceookkapaaGreat

namespace Go.Proofs.YtbidmceookkapaaGreat
namespace Fw
set_option linter.unusedVariables false
set_option linter.unusedSimpArgs false
set_option linter.unusedSectionVars false

theorem pl_comm {a b : List Ver} (h : PL (a ++ b)) : PL (b ++ a) := fun x hx z hz => h x (by rw [List.mem_append] at hx ⊢; exact hx.symm) z (by rw [List.mem_append] at hz ⊢; exact hz.symm)
/-- two sets that may be merged -/
structure Two (a b : List Ver) : Prop where
  ok : (r5Merge a b).2 = 0
  pl : PL (a ++ b)
  len : a.length + b.length ≤ 512
theorem Two.made {a b : List Ver} (h : Two a b) : Made (a ++ b) := by
  obtain ⟨ha, hb, ht, _, _⟩ := merge_0 h.ok
  exact made_of ha hb ht h.pl
theorem Two.oa {a b : List Ver} (h : Two a b) : Of (a ++ b) a := ⟨(merge_0 h.ok).1, fun x hx => List.mem_append_left _ hx⟩
theorem Two.ob {a b : List Ver} (h : Two a b) : Of (a ++ b) b := ⟨(merge_0 h.ok).2.1, fun x hx => List.mem_append_right _ hx⟩
theorem Two.ow {a b : List Ver} (h : Two a b) : Of (a ++ b) (r5Merge a b).1 := by
  obtain ⟨s1, r1, m1⟩ := merged h.ok
  exact ⟨r1, fun x hx => by rw [List.mem_append]; exact ((m1 x).1 hx).1⟩
theorem Two.comm {a b : List Ver} (h : Two a b) : r5Merge b a = r5Merge a b := by
  obtain ⟨s1, r1, m1⟩ := merged h.ok
  obtain ⟨e2, _, s2, m2⟩ := merge_of h.made (by rw [List.length_append]; exact h.len) h.ob h.oa
  refine Prod.ext (srt_ext s2 s1 fun y => ?_) (by rw [e2, h.ok])
  rw [m2 y, m1 y]
  constructor <;> rintro ⟨h1, h2, h3⟩ <;> exact ⟨h1.symm, h3, h2⟩
theorem Two.left {a b : List Ver} (h : Two a b) : r5Merge a (r5Merge a b).1 = ((r5Merge a b).1, 0) := by
  obtain ⟨s1, r1, m1⟩ := merged h.ok
  obtain ⟨e2, _, s2, m2⟩ := merge_of h.made (by rw [List.length_append]; exact h.len) h.oa h.ow
  refine Prod.ext (srt_ext s2 s1 fun y => ?_) e2
  rw [m2 y]
  constructor
  · rintro ⟨h3 | h3, h4, h5⟩
    · rcases cov_mem h.made h.oa h.ob m1 h3 with h6 | h6
      · exact h6
      · rw [h5] at h6; cases h6
    · exact h3
  · intro h3
    exact ⟨.inr h3, ((m1 y).1 h3).2.1, ((right_iff r1).2.1 y h3).2⟩
theorem Two.ne {a b : List Ver} (h : Two a b) (hw : (r5Merge a b).1 = []) : a = [] ∧ b = [] := by
  obtain ⟨s1, r1, m1⟩ := merged h.ok
  have key : ∀ y, ¬ Cov (r5Merge a b).1 y := fun y hy => by
    rcases hy with h1 | h1
    · rw [hw] at h1; cases h1
    · obtain ⟨z, hz, _⟩ := behind_iff.1 h1
      rw [hw] at hz; cases hz
  constructor
  · cases ha : a with
    | nil => rfl
    | cons y l => exact absurd (cov_mem h.made h.oa h.ob m1 (by rw [ha]; exact List.mem_cons_self)) (key y)
  · cases hb : b with
    | nil => rfl
    | cons y l => exact absurd (cov_mem h.made h.ob h.oa (fun y => by rw [m1 y]; constructor <;> rintro ⟨h1, h2, h3⟩ <;> exact ⟨h1.symm, h3, h2⟩) (y := y) (by rw [hb]; exact List.mem_cons_self)) (key y)
theorem mg_comm {a b : List Ver} (h : Two a b) : mg b a = (r5Merge a b).1 := by
  unfold mg
  rw [h.comm, h.ok]; rfl
theorem mg_left {a b : List Ver} (h : Two a b) : mg a (r5Merge a b).1 = (r5Merge a b).1 := by
  unfold mg
  rw [h.left]; rfl
theorem lacks_left {a b : List Ver} (h : Two a b) : r5Lacks a (r5Merge a b).1 = !(r5Same (r5Merge a b).1 a) := by
  unfold r5Lacks
  rw [h.left]; rfl
end Fw
end Go.Proofs.YtbidmceookkapaaGreat

namespace Go.Proofs.YtbidmceookkapaaGreat
namespace Fw
set_option linter.unusedVariables false
set_option linter.unusedSimpArgs false
set_option linter.unusedSectionVars false

def wV (A B : List Rec) (k : ByteArray) : List Ver := (r5Merge (gvR A k) (gvR B k)).1
structure Base (A B : List Rec) : Prop where
  okA : ∀ r ∈ A, RecOk r
  okB : ∀ r ∈ B, RecOk r
  rA : ∀ r ∈ A, rr r = true
  rB : ∀ r ∈ B, rr r = true
  sA : SR A
  sB : SR B
  vA : ∀ r ∈ A, r.vers ≠ []
  vB : ∀ r ∈ B, r.vers ≠ []
  lA : A.length ≤ 1048576
  lB : B.length ≤ 1048576
  two : ∀ k, Two (gvR A k) (gvR B k)
structure Half (A B X : List Rec) (D : ByteArray → Bool) (a : List Rec) : Prop where
  s : SR a
  v : ∀ r ∈ a, r.vers ≠ []
  g : ∀ k, gvR a k = bif D k then wV A B k else gvR X k
theorem wV_ok {A B : List Rec} (h : Base A B) (k : ByteArray) : VersOk (wV A B k) := merge_ok (gvR_ok h.okA k) (gvR_ok h.okB k)
theorem wV_right {A B : List Rec} (h : Base A B) (k : ByteArray) : r5Right (wV A B k) = true := (merged (h.two k).ok).2.1
theorem Half.what {A B X a : List Rec} {D : ByteArray → Bool} (hB : Base A B) (hX : X = A ∨ X = B) (h : Half A B X D a) {x : Rec} (hx : x ∈ a) : RecOk x ∧ rr x = true ∧ x.key ∈ A.map (·.key) ++ B.map (·.key) := by
  have hg := gvR_mem h.s hx
  have hne : gvR a x.key ≠ [] := by rw [hg]; exact h.v x hx
  have hk : ∃ y, (y ∈ A ∨ y ∈ B) ∧ y.key = x.key := by
    rw [h.g] at hne
    by_cases h1 : gvR A x.key = []
    · by_cases h2 : gvR B x.key = []
      · refine absurd ?_ hne
        cases D x.key
        · rcases hX with rfl | rfl
          · exact h1
          · exact h2
        · show wV A B x.key = []
          unfold wV
          rw [h1, h2]; rfl
      · obtain ⟨y, hy, he⟩ := gvR_ne h2; exact ⟨y, .inr hy, he⟩
    · obtain ⟨y, hy, he⟩ := gvR_ne h1; exact ⟨y, .inl hy, he⟩
  obtain ⟨y, hy, he⟩ := hk
  have hyk : RecOk y ∧ rr y = true := by
    rcases hy with h | h
    · exact ⟨hB.okA y h, hB.rA y h⟩
    · exact ⟨hB.okB y h, hB.rB y h⟩
  have hv : VersOk (gvR a x.key) ∧ r5Right (gvR a x.key) = true := by
    rw [h.g]
    cases D x.key
    · rcases hX with rfl | rfl
      · exact ⟨gvR_ok hB.okA _, gvR_right hB.rA _⟩
      · exact ⟨gvR_ok hB.okB _, gvR_right hB.rB _⟩
    · exact ⟨wV_ok hB _, wV_right hB _⟩
  rw [hg] at hv
  refine ⟨⟨by rw [← he]; exact hyk.1.key, hv.1⟩, ?_, ?_⟩
  · have hrr := hyk.2
    unfold rr at hrr ⊢
    rw [Bool.and_eq_true_iff] at hrr ⊢
    exact ⟨by rw [← he]; exact hrr.1, hv.2⟩
  · rw [List.mem_append, List.mem_map, List.mem_map]
    rcases hy with h | h
    · exact .inl ⟨y, h, he⟩
    · exact .inr ⟨y, h, he⟩
theorem Half.len {A B X a : List Rec} {D : ByteArray → Bool} (hB : Base A B) (hX : X = A ∨ X = B) (h : Half A B X D a) : a.length ≤ 2097152 := by
  have := nodup_len (sr_keys h.s) (l := A.map (·.key) ++ B.map (·.key)) (fun k hk => by
    obtain ⟨x, hx, rfl⟩ := List.mem_map.1 hk
    exact (h.what hB hX hx).2.2)
  have h1 := hB.lA
  have h2 := hB.lB
  simp only [List.length_map, List.length_append] at this
  omega
/-- is a key beneath a path? -/
def inK (path : List Int) (k : ByteArray) : Bool := inP path ⟨k, []⟩
theorem inK_eq (path : List Int) (r : Rec) : inP path r = inK path r.key := inP_key rfl
theorem rcV_sr {L : List Rec} (h : SR L) (path : List Int) : SR (rcV L path) := by
  unfold rcV
  cases okP path
  · exact List.Pairwise.nil
  · exact sr_filter _ h
theorem gvR_rcV {L : List Rec} (hs : SR L) {path : List Int} (ho : okP path = true) (k : ByteArray) : gvR (rcV L path) k = bif inK path k then gvR L k else [] := by
  cases hc : inK path k with
  | true =>
    rw [cond_true]
    by_cases h : ∃ x ∈ L, x.key = k
    · obtain ⟨x, hx, rfl⟩ := h
      have : x ∈ rcV L path := by
        unfold rcV
        rw [ho, cond_true]
        exact List.mem_filter.2 ⟨hx, by rw [inK_eq]; exact hc⟩
      rw [gvR_mem (rcV_sr hs _) this, gvR_mem hs hx]
    · rw [gvR_none (fun x hx he => h ⟨x, hx, he⟩)]
      exact gvR_none fun x hx he => h ⟨x, rcV_sub hx, he⟩
  | false =>
    rw [cond_false]
    refine gvR_none fun x hx he => ?_
    unfold rcV at hx
    rw [ho, cond_true] at hx
    have := (List.mem_filter.1 hx).2
    rw [inK_eq, he, hc] at this; cases this
/-- what is taken and laid -/
theorem taken {A B X a T out : List Rec} {D : ByteArray → Bool} (hB : Base A B) (hX : X = A ∨ X = B) (h : Half A B X D a) (s2 : SR out) (m2 : ∀ x, x ∈ out ↔ (x.vers = tkV a T x.key ∧ tkC a T x.key = true)) (k : ByteArray) (hne : tkV a T k = [] → gvR a k = []) : gvR (out.foldl withr a) k = tkV a T k := by
  rw [gv_laid s2 h.s]
  by_cases hc : tkC a T k = true
  · have hx : (⟨k, tkV a T k⟩ : Rec) ∈ out := (m2 _).2 ⟨rfl, hc⟩
    rw [if_pos ⟨_, hx, rfl⟩]
    exact gvR_mem s2 hx
  · rw [if_neg (by rintro ⟨x, hx, rfl⟩; exact hc ((m2 x).1 hx).2)]
    by_cases he : tkV a T k = gvR a k
    · exact he.symm
    · by_cases h0 : tkV a T k = []
      · rw [h0, hne h0]
      · refine absurd ?_ hc
        unfold tkC
        rw [Bool.and_eq_true_iff]
        refine ⟨decide_eq_true ?_, ?_⟩
        · have := List.length_pos_iff.2 h0; omega
        · cases h9 : r5Same (tkV a T k) (gvR a k) with
          | false => rfl
          | true => exact absurd (r5Same_iff.1 h9) he
end Fw
end Go.Proofs.YtbidmceookkapaaGreat

namespace Go.Proofs.YtbidmceookkapaaGreat
namespace Fw
set_option linter.unusedVariables false
set_option linter.unusedSimpArgs false
set_option linter.unusedSectionVars false

theorem leaf {A B a b : List Rec} {D : ByteArray → Bool} (hB : Base A B) (ha : Half A B A D a) (hb : Half A B B D b) {path : List Int} (ho : okP path = true) (hD : ∀ k, inK path k = true → D k = false) :
    ∃ out1 b' g out2 a', m_mend_Take b (rcV a path) = some (out1, 0) ∧ m_firthlaw14_laid b out1 = some b' ∧ m_mend_Give b' path (rcV a path) = some g ∧ m_mend_Take a g = some (out2, 0) ∧ m_firthlaw14_laid a out2 = some a' ∧
      Half A B A (fun k => D k || inK path k) a' ∧ Half A B B (fun k => D k || inK path k) b' := by
  have hla := ha.len hB (.inl rfl)
  have hlb := hb.len hB (.inr rfl)
  have hwa := fun x (hx : x ∈ a) => ha.what hB (.inl rfl) hx
  have hwb := fun x (hx : x ∈ b) => hb.what hB (.inr rfl) hx
  have hlT := rcV_len a path
  have hgT := fun k => gvR_rcV ha.s ho k
  have hsT := rcV_sr ha.s path
  have hT : ∀ x ∈ rcV a path, x ∈ a := fun x hx => rcV_sub hx
  obtain ⟨out1, e1, s1, m1⟩ := e_Take (fun r h => (hwb r h).1) (fun r h => (hwb r h).2.1) hb.s hb.v (by omega) (fun r h => (hwa r (hT r h)).1) (fun r h => (hwa r (hT r h)).2.1) hsT (fun r h => ha.v r (hT r h)) (by omega)
  have hrb : ∀ k, r5Right (gvR b k) = true := fun k => gvR_right (fun r h => (hwb r h).2.1) k
  have hra : ∀ k, r5Right (gvR a k) = true := fun k => gvR_right (fun r h => (hwa r h).2.1) k
  -- what b takes
  have htk : ∀ k, tkV b (rcV a path) k = bif inK path k then wV A B k else gvR b k := fun k => by
    unfold tkV
    rw [hgT k]
    cases hc : inK path k with
    | false => rw [cond_false, cond_false, mg_nil (hrb k)]
    | true =>
      rw [cond_true, cond_true, ha.g, hb.g, hD k hc, cond_false, cond_false]
      exact mg_comm (hB.two k)
  have hol1 : out1.length ≤ 4194304 := by
    have := nodup_len (sr_keys s1) (l := b.map (·.key) ++ a.map (·.key)) (fun k hk => by
      obtain ⟨x, hx, rfl⟩ := List.mem_map.1 hk
      obtain ⟨y, hy, he⟩ := tkV_key (tkC_ne ((m1 x).1 hx).2).1
      rw [List.mem_append, List.mem_map, List.mem_map]
      rcases hy with h | h
      · exact .inl ⟨y, h, he⟩
      · exact .inr ⟨y, hT y h, he⟩)
    simp only [List.length_map, List.length_append] at this
    omega
  have hb' : Half A B B (fun k => D k || inK path k) (out1.foldl withr b) := by
    refine ⟨foldl_sr _ _ hb.s, foldl_vers hb.v, fun k => ?_⟩
    rw [taken hB (.inr rfl) hb s1 m1 k (fun h => ?_), htk k]
    · cases hc : inK path k with
      | true => rw [cond_true, Bool.or_true, cond_true]
      | false => rw [cond_false, Bool.or_false]; exact hb.g k
    · rw [htk k] at h
      cases hc : inK path k with
      | true =>
        rw [hc, cond_true] at h
        rw [hb.g, hD k hc, cond_false]
        exact ((hB.two k).ne h).2
      | false => rw [hc, cond_false] at h; exact h
  have hlb' := hb'.len hB (.inr rfl)
  have hwb' := fun x (hx : x ∈ out1.foldl withr b) => hb'.what hB (.inr rfl) hx
  have e2 : m_firthlaw14_laid b out1 = some (out1.foldl withr b) := e_laid (by rw [lim_v]; omega)
  generalize out1.foldl withr b = b' at *
  have hbb := addL_self hb'.s hb'.v
  have hTT := addL_self hsT (fun r h => ha.v r (hT r h))
  have e3 : m_mend_Give b' path (rcV a path) = some (giveV b' (rcV a path) path) := by
    rw [e_Give path (fun r h => (hwb' r h).1) (by omega) (fun r h => (hwa r (hT r h)).1) (fun r h => (hwb' r h).2.1) (fun r h => (hwa r (hT r h)).2.1), hbb, hTT]
  have hsG : SR (giveV b' (rcV a path) path) := sr_filter _ (rcV_sr hb'.s path)
  have hG : ∀ x, x ∈ giveV b' (rcV a path) path ↔ (x ∈ b' ∧ inK path x.key = true ∧ r5Lacks (gvR (rcV a path) x.key) x.vers = true) := fun x => by
    unfold giveV rcV
    rw [ho, cond_true, cond_true, List.mem_filter, List.mem_filter, inK_eq, and_assoc]
  have hlG : (giveV b' (rcV a path) path).length ≤ b'.length := Nat.le_trans (List.length_filter_le _ _) (rcV_len b' path)
  generalize giveV b' (rcV a path) path = g at *
  obtain ⟨out2, e4, s4, m4⟩ := e_Take (fun r h => (hwa r h).1) (fun r h => (hwa r h).2.1) ha.s ha.v (by omega) (fun r h => (hwb' r ((hG r).1 h).1).1) (fun r h => (hwb' r ((hG r).1 h).1).2.1) hsG (fun r h => hb'.v r ((hG r).1 h).1) (by omega)
  have htk2 : ∀ k, tkV a g k = bif inK path k then wV A B k else gvR a k := fun k => by
    unfold tkV
    cases hc : inK path k with
    | false =>
      rw [cond_false, gvR_none (L := g) (k := k) (fun x hx he => by have := ((hG x).1 hx).2.1; rw [he, hc] at this; cases this), mg_nil (hra k)]
    | true =>
      have hak : gvR a k = gvR A k := by rw [ha.g, hD k hc, cond_false]
      have hbk : gvR b' k = wV A B k := by rw [hb'.g, hc, Bool.or_true, cond_true]
      rw [cond_true, hak]
      by_cases hx : ∃ x ∈ g, x.key = k
      · obtain ⟨x, hx, rfl⟩ := hx
        rw [gvR_mem hsG hx, ← gvR_mem hb'.s ((hG x).1 hx).1, hbk]
        exact mg_left (hB.two _)
      · have hrA : r5Right (gvR A k) = true := gvR_right hB.rA k
        rw [gvR_none (L := g) (k := k) (fun x h he => hx ⟨x, h, he⟩), mg_nil hrA]
        by_cases hw : wV A B k = []
        · rw [((hB.two k).ne hw).1, hw]
        · obtain ⟨y, hy, he⟩ := gvR_ne (L := b') (k := k) (by rw [hbk]; exact hw)
          subst he
          have hyv : y.vers = wV A B y.key := by rw [← gvR_mem hb'.s hy, hbk]
          cases h9 : r5Lacks (gvR (rcV a path) y.key) y.vers with
          | true => exact absurd ⟨y, (hG y).2 ⟨hy, hc, h9⟩, rfl⟩ hx
          | false =>
            rw [hgT, hc, cond_true, hak, hyv] at h9
            unfold wV at h9
            rw [lacks_left (hB.two _)] at h9
            have : r5Same (r5Merge (gvR A y.key) (gvR B y.key)).1 (gvR A y.key) = true := by simpa using h9
            exact (r5Same_iff.1 this).symm
  have hol2 : out2.length ≤ 4194304 := by
    have := nodup_len (sr_keys s4) (l := a.map (·.key) ++ g.map (·.key)) (fun k hk => by
      obtain ⟨x, hx, rfl⟩ := List.mem_map.1 hk
      obtain ⟨y, hy, he⟩ := tkV_key (tkC_ne ((m4 x).1 hx).2).1
      rw [List.mem_append, List.mem_map, List.mem_map]
      rcases hy with h | h
      · exact .inl ⟨y, h, he⟩
      · exact .inr ⟨y, h, he⟩)
    simp only [List.length_map, List.length_append] at this
    omega
  refine ⟨out1, b', g, out2, out2.foldl withr a, e1, e2, e3, e4, e_laid (by rw [lim_v]; omega), ⟨foldl_sr _ _ ha.s, foldl_vers ha.v, fun k => ?_⟩, hb'⟩
  rw [taken hB (.inl rfl) ha s4 m4 k (fun h => ?_), htk2 k]
  · cases hc : inK path k with
    | true => rw [cond_true, Bool.or_true, cond_true]
    | false => rw [cond_false, Bool.or_false]; exact ha.g k
  · rw [htk2 k] at h
    cases hc : inK path k with
    | true =>
      rw [hc, cond_true] at h
      rw [ha.g, hD k hc, cond_false]
      exact ((hB.two k).ne h).1
    | false => rw [hc, cond_false] at h; exact h
end Fw
end Go.Proofs.YtbidmceookkapaaGreat

namespace Go.Proofs.YtbidmceookkapaaGreat
namespace Fw
set_option linter.unusedVariables false
set_option linter.unusedSimpArgs false
set_option linter.unusedSectionVars false

theorem e_both2 {A T : List Rec} (hokA : ∀ r ∈ A, RecOk r) (hrA : ∀ r ∈ A, rr r = true) (hsA : SR A) (hvA : ∀ r ∈ A, r.vers ≠ []) (hlA : A.length ≤ 4194304) (hokT : ∀ r ∈ T, RecOk r) (hsT : SR T) (hlT : T.length ≤ 4194304) :
    ∃ r, m_firthlaw14_both A T = some r ∧ (r.2 = true → SR r.1 ∧ (∀ x ∈ r.1, x.vers ≠ []) ∧ ∀ k, gvR r.1 k = mg (gvR A k) (gvR T k)) := by
  unfold m_firthlaw14_both
  refine forI_ex (fun i out => SR out ∧ out.length ≤ A.length + i ∧ (∀ k, gvR out k = mg (gvR A k) (gvR (T.take i) k)) ∧ ∀ x ∈ out, x.vers ≠ []) (fun r : List Rec × Bool => r.2 = true → SR r.1 ∧ (∀ x ∈ r.1, x.vers ≠ []) ∧ ∀ k, gvR r.1 k = mg (gvR A k) (gvR T k)) (fun out hI => ⟨_, rfl, fun _ => ⟨hI.1, hI.2.2.2, by have := hI.2.2.1; rw [List.take_length] at this; exact this⟩⟩) (fun f i out hi hI hf => ?_) ⟨hsA, Nat.le_refl _, fun k => ?_, hvA⟩
  · obtain ⟨h1, h2, h3, h4⟩ := hI
    have hrm := gt_mem hi
    have hnone : gvR (T.take i) (gt T i).key = [] := gvR_none (take_ne hsT hi)
    have hself : gvR (T.take (i + 1)) (gt T i).key = (gt T i).vers := by
      have : gt T i ∈ T.take (i + 1) := by rw [take_gt hi]; exact List.mem_append_right _ (List.mem_singleton.2 rfl)
      exact gvR_mem (sr_take hsT _) this
    have hother : ∀ k, k ≠ (gt T i).key → gvR (T.take (i + 1)) k = gvR (T.take i) k := fun k hk => by
      rw [take_gt hi]; exact gvR_snoc_ne (fun e => hk e.symm)
    have hcur : gvR out (gt T i).key = gvR A (gt T i).key := by rw [h3, hnone, mg_nil (gvR_right hrA _)]
    unfold m_firthlaw14_both_b1
    rw [e_Get, Option.bind_some, hcur, e_r5Merge (gvR_ok hokA _) (hokT _ hrm).vers, Option.bind_some]
    cases hc : (r5Merge (gvR A (gt T i).key) (gt T i).vers).2 != 0 with
    | true => exact ⟨_, rfl, fun h => absurd h (by decide)⟩
    | false =>
      have hc0 : (r5Merge (gvR A (gt T i).key) (gt T i).vers).2 = 0 := by simpa using hc
      rw [cond_false, e_With (by rw [lim_v]; omega), Option.bind_some]
      have hwl := withr_len out ⟨(gt T i).key, (r5Merge (gvR A (gt T i).key) (gt T i).vers).1⟩
      refine hf _ ⟨sr_withr h1, by omega, fun k => ?_, fun x hx => ?_⟩
      · rw [gvR_withr h1]
        by_cases hk : k = (gt T i).key
        · subst hk
          rw [if_pos rfl, hself]
          unfold mg
          rw [hc0]; rfl
        · rw [if_neg hk, hother k hk]; exact h3 k
      · rcases mem_withr.1 hx with ⟨h, hv⟩ | ⟨h, _⟩
        · rw [h]; exact hv
        · exact h4 x h
  · show gvR A k = mg (gvR A k) []
    rw [mg_nil (gvR_right hrA k)]
end Fw
end Go.Proofs.YtbidmceookkapaaGreat

namespace Go.Proofs.YtbidmceookkapaaGreat
namespace Fw
set_option linter.unusedVariables false
set_option linter.unusedSimpArgs false
set_option linter.unusedSectionVars false

theorem rec_eq {x y : Rec} (h1 : x.key = y.key) (h2 : x.vers = y.vers) : x = y := by
  cases x; cases y
  simp only at h1 h2
  rw [h1, h2]
theorem mem_gv {a b : List Rec} (ha : SR a) (hb : SR b) (va : ∀ r ∈ a, r.vers ≠ []) {x : Rec} (hx : x ∈ a) (h : gvR a x.key = gvR b x.key) : x ∈ b := by
  have h1 := gvR_mem ha hx
  obtain ⟨y, hy, he⟩ := gvR_ne (L := b) (k := x.key) (by rw [← h, h1]; exact va x hx)
  have h2 := gvR_mem hb hy
  rw [he, ← h, h1] at h2
  rw [rec_eq he.symm h2]; exact hy
theorem rcV_ext {a b : List Rec} (ha : SR a) (hb : SR b) (va : ∀ r ∈ a, r.vers ≠ []) (vb : ∀ r ∈ b, r.vers ≠ []) {path : List Int} (ho : okP path = true) (h : ∀ k, inK path k = true → gvR a k = gvR b k) : rcV a path = rcV b path := by
  refine sr_ext (rcV_sr ha _) (rcV_sr hb _) fun x => ?_
  unfold rcV
  rw [ho, cond_true, cond_true, List.mem_filter, List.mem_filter, inK_eq]
  constructor
  · rintro ⟨h1, h2⟩; exact ⟨mem_gv ha hb va h1 (h _ h2), h2⟩
  · rintro ⟨h1, h2⟩; exact ⟨mem_gv hb ha vb h1 (h _ h2).symm, h2⟩
theorem list_ext {a b : List Rec} (ha : SR a) (hb : SR b) (va : ∀ r ∈ a, r.vers ≠ []) (vb : ∀ r ∈ b, r.vers ≠ []) (h : ∀ k, gvR a k = gvR b k) : a = b :=
  sr_ext ha hb fun x => ⟨fun hx => mem_gv ha hb va hx (h _), fun hx => mem_gv hb ha vb hx (h _).symm⟩
end Fw
end Go.Proofs.YtbidmceookkapaaGreat

namespace Go.Proofs.YtbidmceookkapaaGreat
namespace Fw
set_option linter.unusedVariables false
set_option linter.unusedSimpArgs false
set_option linter.unusedSectionVars false

theorem inner {A B a0 b0 : List Rec} {D : ByteArray → Bool} (hB : Base A B) (ha0 : Half A B A D a0) (hb0 : Half A B B D b0) {ps : List (List Int)} (hps : ∀ p ∈ ps, okP p = true ∧ p.length = 2 ∧ ∀ k, inK p k = true → D k = false)
    (hd : ps.Pairwise (fun p q => ∀ k, inK q k = true → inK p k = false)) {kk : List Rec × List Rec → Option Bool} {r : Option Bool} (hk : ∀ a b, Half A B A (fun k => D k || ps.any (fun p => inK p k)) a → Half A B B (fun k => D k || ps.any (fun p => inK p k)) b → kk (a, b) = r) :
    forI m_firthlaw14_MendBoth_b5 kk 0 (ps.map (stepA a0)) (a0, b0) = r := by
  have hlen : (ps.map (stepA a0)).length = ps.length := List.length_map _
  refine forI_run (fun i (s : List Rec × List Rec) => Half A B A (fun k => D k || (ps.take i).any (fun p => inK p k)) s.1 ∧ Half A B B (fun k => D k || (ps.take i).any (fun p => inK p k)) s.2) (fun s hI => ?_) (fun f i s hi hI hf => ?_) ⟨by simpa using ha0, by simpa using hb0⟩
  · obtain ⟨a, b⟩ := s
    have h1 := hI.1; have h2 := hI.2
    rw [hlen, List.take_length] at h1 h2
    exact hk a b h1 h2
  · obtain ⟨a, b⟩ := s
    obtain ⟨h1, h2⟩ := hI
    rw [hlen] at hi
    obtain ⟨ho, hl2, hD⟩ := hps _ (gt_mem hi)
    have hg : gt (ps.map (stepA a0)) i = ⟨gt ps i, [], rcV a0 (gt ps i)⟩ := by
      rw [gt_eq (by rw [hlen]; exact hi), List.getElem_map, ← gt_eq hi]
      unfold stepA
      rw [show decide ((gt ps i).length = 1) = false from decide_eq_false (by omega)]; rfl
    have hD2 : ∀ k, inK (gt ps i) k = true → (D k || (ps.take i).any (fun p => inK p k)) = false := fun k hk2 => by
      rw [hD k hk2, Bool.false_or, List.any_eq_false]
      intro p hp
      have h3 : (ps.take i ++ [gt ps i]).Pairwise (fun p q => ∀ k, inK q k = true → inK p k = false) := by rw [← take_gt hi]; exact List.Pairwise.sublist (List.take_sublist _ _) hd
      rw [(List.pairwise_append.1 h3).2.2 p hp _ (List.mem_singleton.2 rfl) k hk2]; decide
    have hr : rcV a0 (gt ps i) = rcV a (gt ps i) := rcV_ext ha0.s h1.s ha0.v h1.v ho fun k hk2 => by
      have h3 := h1.g k
      simp only at h3
      rw [ha0.g, h3, hD2 k hk2, hD k hk2]
    obtain ⟨out1, b', g, out2, a', e1, e2, e3, e4, e5, h5, h6⟩ := leaf hB h1 h2 ho hD2
    have hfun : (fun k => (D k || (ps.take i).any (fun p => inK p k)) || inK (gt ps i) k) = (fun k => D k || (ps.take (i + 1)).any (fun p => inK p k)) := by
      funext k
      rw [take_gt hi, List.any_append, Bool.or_assoc]; simp
    rw [hfun] at h5 h6
    rw [hg]
    unfold m_firthlaw14_MendBoth_b5
    simp only at e1 e2 e3 e4 e5 ⊢
    rw [hr, e1, Option.bind_some]
    simp only
    rw [show ((0 : Int) != 0) = false from rfl, cond_false, e2, Option.bind_some, e3, Option.bind_some, e4, Option.bind_some]
    simp only
    rw [show ((0 : Int) != 0) = false from rfl, cond_false, e5, Option.bind_some]
    exact hf _ ⟨h5, h6⟩
end Fw
end Go.Proofs.YtbidmceookkapaaGreat

namespace Go.Proofs.YtbidmceookkapaaGreat
namespace Fw
set_option linter.unusedVariables false
set_option linter.unusedSimpArgs false
set_option linter.unusedSectionVars false

theorem difN_of {a b : List Int} {i : Nat} (hi : i < 16) (h : gt a i ≠ gt b i) : i ∈ difN a b := by
  unfold difN
  exact List.mem_filter.2 ⟨List.mem_range.2 hi, by simpa using h⟩
theorem ok2 {d e : Nat} (hd : d < 16) (he : e < 16) : okP [((d : Nat) : Int), ((e : Nat) : Int)] = true := ok_ext (path := [((d : Nat) : Int)]) (ok1 hd) (Nat.le_refl _) he
theorem Hs_rc {a b : List Rec} {d e : Nat} (hd : d < 16) (he : e < 16) (h : rcV a [((d : Nat) : Int), ((e : Nat) : Int)] = rcV b [((d : Nat) : Int), ((e : Nat) : Int)]) : Hs a [((d : Nat) : Int), ((e : Nat) : Int)] = Hs b [((d : Nat) : Int), ((e : Nat) : Int)] := by
  unfold rcV at h
  rw [ok2 hd he, cond_true, cond_true] at h
  show hs2 a _ _ = hs2 b _ _
  unfold hs2
  rw [h]
theorem inK1 (d : Nat) (k : ByteArray) : inK [((d : Nat) : Int)] k = decide (pa k = d) := by
  show (((d : Nat) : Int) == ((pa k : Nat) : Int)) = _
  rw [Bool.eq_iff_iff, beq_iff_eq, decide_eq_true_eq]; omega
theorem inK2 (d e : Nat) (k : ByteArray) : inK [((d : Nat) : Int), ((e : Nat) : Int)] k = (decide (pa k = d) && decide (pb k = e)) := by
  show (((d : Nat) : Int) == ((pa k : Nat) : Int) && ((e : Nat) : Int) == ((pb k : Nat) : Int)) = _
  rw [Bool.eq_iff_iff]; simp; omega
/-- the leaves of a digit that differ -/
def lvs (A B : List Rec) (d : Nat) : List (List Int) := (difN (kidsV A [((d : Nat) : Int)]) (kidsV B [((d : Nat) : Int)])).map (fun e => [((d : Nat) : Int), ((e : Nat) : Int)])
theorem mem_lvs {A B : List Rec} {d : Nat} {p : List Int} (h : p ∈ lvs A B d) : ∃ e, e < 16 ∧ p = [((d : Nat) : Int), ((e : Nat) : Int)] := by
  obtain ⟨e, he, rfl⟩ := List.mem_map.1 h
  exact ⟨e, (difN_mem he).1, rfl⟩
theorem lvs_any {A B : List Rec} {d : Nat} {k : ByteArray} (h : (lvs A B d).any (fun p => inK p k) = true) : pa k = d := by
  obtain ⟨p, hp, hk⟩ := List.any_eq_true.1 h
  obtain ⟨e, _, rfl⟩ := mem_lvs hp
  rw [inK2, Bool.and_eq_true_iff] at hk
  exact of_decide_eq_true hk.1
def dn (A B : List Rec) (D : List Nat) (k : ByteArray) : Bool := D.any (fun d => (lvs A B d).any (fun p => inK p k))
theorem dn_dig {A B : List Rec} {D : List Nat} {k : ByteArray} (h : dn A B D k = true) : pa k ∈ D := by
  obtain ⟨d, hd, h2⟩ := List.any_eq_true.1 h
  rw [lvs_any h2]; exact hd
theorem dn_snoc (A B : List Rec) (D : List Nat) (d : Nat) : dn A B (D ++ [d]) = fun k => dn A B D k || (lvs A B d).any (fun p => inK p k) := by
  funext k
  unfold dn
  rw [List.any_append]; simp
theorem gv_of_rc {A B : List Rec} (hA : SR A) (hB : SR B) {path : List Int} (ho : okP path = true) (h : rcV A path = rcV B path) {k : ByteArray} (hk : inK path k = true) : gvR A k = gvR B k := by
  have h1 := gvR_rcV hA ho k
  have h2 := gvR_rcV hB ho k
  rw [hk, cond_true] at h1 h2
  rw [← h1, h, h2]
theorem answer_in {A B a : List Rec} {D : ByteArray → Bool} (hB : Base A B) (ha : Half A B A D a) {d : Nat} (hd : d < 16) (hD : ∀ k, pa k = d → D k = false) :
    m_mend_Answer a [((d : Nat) : Int)] (kidsV B [((d : Nat) : Int)]) = some ((lvs A B d).map (stepA a)) := by
  have hla := ha.len hB (.inl rfl)
  have hwa := fun x (hx : x ∈ a) => ha.what hB (.inl rfl) hx
  rw [e_Answer_t (fun r h => (hwa r h).1) (by omega) (fun r h => (hwa r h).2.1), addL_self ha.s ha.v]
  have hk : kidsV a [((d : Nat) : Int)] = kidsV A [((d : Nat) : Int)] := by
    unfold kidsV
    rw [ok1 hd]
    show List.map _ _ = List.map _ _
    refine List.map_congr_left fun e he => ?_
    have he := List.mem_range.1 he
    refine Hs_rc hd he ?_
    refine rcV_ext ha.s hB.sA ha.v hB.vA (ok2 hd he) fun k hk => ?_
    rw [inK2, Bool.and_eq_true_iff] at hk
    rw [ha.g, hD k (of_decide_eq_true hk.1), cond_false]
  unfold ansD
  rw [ok1 hd, hk]
  show some (((dif _ _).map (fun e => [((d : Nat) : Int)] ++ [e])).map (stepA a)) = _
  unfold dif lvs
  simp only [List.map_map]; rfl
theorem both_law {left right : List Rec} (hok : ∀ r ∈ left, RecOk r) (hl : left.length ≤ 1048576) (hokt : ∀ r ∈ right, RecOk r) (hlt : right.length ≤ 1048576) : m_firthlaw14_MendBoth left right = some true := by
  unfold m_firthlaw14_MendBoth
  rw [awake14, Option.bind_some, Bool.not_true, cond_false]
  rcases all_or left with hr | hr
  · rcases all_or right with hrt | hrt
    · rw [e_Held_t hok (by rw [lim_v]; omega) hr, Option.bind_some, e_Held_t hokt (by rw [lim_v]; omega) hrt, Option.bind_some]
      have hla := addL_len left
      have hlb := addL_len right
      have hokA := addL_ok hok
      have hokB := addL_ok hokt
      have hrA : ∀ r ∈ addL left, rr r = true := fun r h => hr r (mem_addL h)
      have hrB : ∀ r ∈ addL right, rr r = true := fun r h => hrt r (mem_addL h)
      have hsA := addL_sr left
      have hsB := addL_sr right
      have hvA := addL_vers left
      have hvB := addL_vers right
      generalize addL left = A at *
      generalize addL right = B at *
      have hAA := addL_self hsA hvA
      have hBB := addL_self hsB hvB
      simp only [Bool.not_true, Bool.or_self, Bool.not_false, Bool.false_or]
      obtain ⟨pD, eD, hDb⟩ := e_Doubt hokA (by omega) hrA hAA hokB (by omega) hrB hBB
      rw [eD, gcall_s, Option.bind_some]
      cases hpd : pD with
      | true => rfl
      | false =>
        obtain ⟨hd1, hd2⟩ := hDb hpd
        simp only [cond_true, cond_false]
        obtain ⟨rb, e1, hfine⟩ := e_both hokA hrA hsA (by omega) hokB hsB (by omega)
        obtain ⟨rb2, e1', hwant⟩ := e_both2 hokA hrA hsA hvA (by omega) hokB hsB (by omega)
        rw [e1] at e1'
        have hrb : rb = rb2 := Option.some.inj e1'
        subst hrb
        rw [e1, Option.bind_some]
        obtain ⟨w1, ew1, hw1⟩ := e_written hsA hrA hrB
        obtain ⟨w2, ew2, hw2⟩ := e_written hsB hrB hrA
        rw [ew1, gcall_s, Option.bind_some, ew2, gcall_s, Option.bind_some]
        cases hf : rb.2 with
        | false => rfl
        | true =>
          cases hc1 : w1 with
          | false => rfl
          | true =>
            cases hc2 : w2 with
            | false => rfl
            | true =>
              have hm0 := hfine hf
              obtain ⟨sW, vW, gW⟩ := hwant hf
              have hw1 := hw1 hc1
              have hw2 := hw2 hc2
              simp only [Bool.not_true, Bool.or_self, Bool.not_false, Bool.true_and, cond_false]
              have hbase : Base A B := ⟨hokA, hokB, hrA, hrB, hsA, hsB, hvA, hvB, by omega, by omega, fun k => by
                by_cases h1 : gvR A k = []
                · by_cases h2 : gvR B k = []
                  · refine ⟨hm0 k, ?_, ?_⟩
                    · rw [h1, h2]; intro x hx; cases hx
                    · rw [h1, h2]; exact Nat.zero_le _
                  · obtain ⟨y, hy, he⟩ := gvR_ne h2
                    have := hw2 y hy
                    rw [he] at this
                    exact ⟨hm0 k, pl_comm this.2, by omega⟩
                · obtain ⟨y, hy, he⟩ := gvR_ne h1
                  have := hw1 y hy
                  rw [he] at this
                  exact ⟨hm0 k, this.2, this.1⟩⟩
              have hO : m_mend_Open A = some (kidsV A []) := by rw [e_Open_t hokA (by omega) hrA, hAA]
              have hB0 : m_mend_Answer B [] (kidsV A []) = some ((difN (kidsV B []) (kidsV A [])).map (fun d : Nat => stepA B [((d : Nat) : Int)])) := by
                rw [e_Answer_t hokB (by omega) hrB, hBB]
                show some (((dif (kidsV B []) (kidsV A [])).map (fun d => [] ++ [d])).map (stepA B)) = _
                unfold dif
                rw [List.map_map, List.map_map]; rfl
              rw [hO, Option.bind_some, hB0, Option.bind_some]
              have hnd := difN_nodup (kidsV B []) (kidsV A [])
              have hmemD : ∀ d, d < 16 → d ∉ difN (kidsV B []) (kidsV A []) → Hs A [((d : Nat) : Int)] = Hs B [((d : Nat) : Int)] := fun d hd hn => by
                have h1 := kids_gt (all := A) (path := []) rfl hd
                have h2 := kids_gt (all := B) (path := []) rfl hd
                simp only [List.nil_append] at h1 h2
                rw [← h1, ← h2]
                exact Classical.byContradiction fun h => hn (difN_of hd fun e => h e.symm)
              have hDlt : ∀ d ∈ difN (kidsV B []) (kidsV A []), d < 16 := fun d hd => (difN_mem hd).1
              generalize difN (kidsV B []) (kidsV A []) = D at *
              have hfl : (D.map (fun d : Nat => stepA B [((d : Nat) : Int)])).length = D.length := List.length_map _
              refine forI_run (fun i (s : List Rec × List Rec) => Half A B A (dn A B (D.take i)) s.1 ∧ Half A B B (dn A B (D.take i)) s.2) (fun s hI => ?_) (fun f i s hi hI hf => ?_) ⟨⟨hsA, hvA, fun k => rfl⟩, ⟨hsB, hvB, fun k => rfl⟩⟩
              · obtain ⟨a, b⟩ := s
                obtain ⟨ha, hb⟩ := hI
                rw [hfl, List.take_length] at ha hb
                simp only at ha hb ⊢
                have hout : ∀ k, dn A B D k = false → gvR A k = gvR B k := fun k hk => by
                  by_cases hc : pa k ∈ D
                  · have hkk : ∀ X : List Rec, gt (kidsV X [((pa k : Nat) : Int)]) (pb k) = Hs X [((pa k : Nat) : Int), ((pb k : Nat) : Int)] := fun X =>
                      kids_gt (by rw [ok1 (pa_lt k)]; rfl) (pb_lt k)
                    have hn : pb k ∉ difN (kidsV A [((pa k : Nat) : Int)]) (kidsV B [((pa k : Nat) : Int)]) := fun h => by
                      have : dn A B D k = true := List.any_eq_true.2 ⟨_, hc, List.any_eq_true.2 ⟨_, List.mem_map.2 ⟨_, h, rfl⟩, by rw [inK2, decide_eq_true rfl, decide_eq_true rfl]; rfl⟩⟩
                      rw [hk] at this; cases this
                    have hH : Hs A [((pa k : Nat) : Int), ((pb k : Nat) : Int)] = Hs B [((pa k : Nat) : Int), ((pb k : Nat) : Int)] := by
                      rw [← hkk A, ← hkk B]
                      exact Classical.byContradiction fun h => hn (difN_of (pb_lt k) h)
                    exact gv_of_rc hsA hsB (ok2 (pa_lt k) (pb_lt k)) (hd2 _ _ (pa_lt k) (pb_lt k) hH) (by rw [inK2, decide_eq_true rfl, decide_eq_true rfl]; rfl)
                  · exact gv_of_rc hsA hsB (ok1 (pa_lt k)) (hd1 _ (pa_lt k) (hmemD _ (pa_lt k) hc)) (by rw [inK1, decide_eq_true rfl])
                have hab : a = b := list_ext ha.s hb.s ha.v hb.v fun k => by
                  rw [ha.g, hb.g]
                  cases hk : dn A B D k with
                  | true => rfl
                  | false => exact hout k hk
                have haw : a = rb.1 := list_ext ha.s sW ha.v vW fun k => by
                  rw [ha.g, gW]
                  have hmg : mg (gvR A k) (gvR B k) = wV A B k := by unfold mg; rw [hm0 k]; rfl
                  rw [hmg]
                  cases hk : dn A B D k with
                  | true => rfl
                  | false =>
                    rw [cond_false]
                    unfold wV
                    have h2 := hm0 k
                    rw [← hout k hk] at h2 ⊢
                    exact (self_merge h2).symm
                obtain ⟨p1, ep1, hp1⟩ := e_SameRecs2 a b
                obtain ⟨p2, ep2, hp2⟩ := e_SameRecs2 a rb.1
                rw [ep1, Option.bind_some, ep2, gcall_s, Option.bind_some, hp1.2 hab, hp2.2 haw]; rfl
              · obtain ⟨a, b⟩ := s
                obtain ⟨ha, hb⟩ := hI
                rw [hfl] at hi
                simp only at ha hb
                have hg : gt (D.map (fun d : Nat => stepA B [((d : Nat) : Int)])) i = ⟨[((gt D i : Nat) : Int)], kidsV B [((gt D i : Nat) : Int)], []⟩ := by
                  rw [gt_eq (by rw [hfl]; exact hi), List.getElem_map, gt_eq hi]; rfl
                have hd16 := hDlt _ (gt_mem hi)
                have hnot : gt D i ∉ D.take i := by
                  have := hnd
                  rw [← List.take_append_drop i D, drop_gt hi, List.nodup_append] at this
                  exact fun h => this.2.2 _ h _ List.mem_cons_self rfl
                have hDf : ∀ k, pa k = gt D i → dn A B (D.take i) k = false := fun k hk => by
                  cases hc : dn A B (D.take i) k with
                  | false => rfl
                  | true => exact absurd (by rw [← hk]; exact dn_dig hc) hnot
                rw [hg]
                unfold m_firthlaw14_MendBoth_b4
                simp only
                rw [answer_in hbase ha hd16 hDf, Option.bind_some]
                refine inner hbase ha hb (fun p hp => ?_) ?_ (fun a' b' ha' hb' => ?_)
                · obtain ⟨e, he, rfl⟩ := mem_lvs hp
                  refine ⟨ok2 hd16 he, rfl, fun k hk => ?_⟩
                  rw [inK2, Bool.and_eq_true_iff] at hk
                  exact hDf k (of_decide_eq_true hk.1)
                · unfold lvs
                  rw [List.pairwise_map]
                  refine List.Pairwise.imp ?_ (difN_nodup _ _)
                  intro e e2 hne k hk
                  rw [inK2, Bool.and_eq_true_iff] at hk
                  rw [inK2]
                  have h1 := of_decide_eq_true hk.2
                  rw [decide_eq_false (show ¬ pb k = e from fun h => hne (h ▸ h1)), Bool.and_false]
                · refine hf (a', b') ⟨?_, ?_⟩
                  · rw [take_gt hi, dn_snoc]; exact ha'
                  · rw [take_gt hi, dn_snoc]; exact hb'
    · rw [e_Held_t hok (by rw [lim_v]; omega) hr, Option.bind_some, e_Held_f hokt (by rw [lim_v]; omega) hrt, Option.bind_some]; rfl
  · rw [e_Held_f hok (by rw [lim_v]; omega) hr, Option.bind_some]
    rcases all_or right with hrt | hrt
    · rw [e_Held_t hokt (by rw [lim_v]; omega) hrt, Option.bind_some]; rfl
    · rw [e_Held_f hokt (by rw [lim_v]; omega) hrt, Option.bind_some]; rfl
theorem p_firthlaw14_MendBoth {Γ : Gh} {A : Option Addr} {c : Nat} {left : List Rec} (hs : Sl recT Γ A left) (hc : left.length ≤ c) {A3 : Option Addr} {c3 : Nat} {right : List Rec} (hs3 : Sl recT Γ A3 right) (hc3 : right.length ≤ c3) (m1 : bkL Rec.bk left ≤ 1048576) (m3 : bkL Rec.bk right ≤ 1048576) :
    m_firthlaw14_MendBoth left right = some true := both_law (sl_recOk hs) (recs_len m1) (sl_recOk hs3) (recs_len m3)
end Fw
end Go.Proofs.YtbidmceookkapaaGreat
