/- The plain side: what the models come to. No condition. -/
import Derived.Test.YtiakfgdgafljnaaGreatPJ1
namespace Go.Proofs.YtiakfgdgafljnaaGreat
namespace Fw
set_option linter.unusedVariables false
set_option linter.unusedSimpArgs false
set_option linter.unusedSectionVars false

theorem loopN_run {S R : Type} {B : (S → Option R) → S → Option R} {r : Option R} (I : Nat → S → Prop) (n : Nat) (hb : ∀ i s, I i s → i ≤ n) (hstep : ∀ f i s, I i s → (∀ s', I (i + 1) s' → f s' = r) → B f s = r) (hn : n + 1 < FU) {s : S} (h0 : I 0 s) : loopN B FU s = r := by
  have key : ∀ k i s, i + k = n + 1 → I i s → ∀ m, k < m → loopN B m s = r := by
    intro k
    induction k with
    | zero => intro i s hi hI; have := hb i s hI; omega
    | succ k ih =>
      intro i s hi hI m hm
      obtain ⟨m, rfl⟩ : ∃ q, m = q + 1 := ⟨m - 1, by omega⟩
      exact hstep _ i s hI fun s' h' => ih (i + 1) s' (by omega) h' m (by omega)
  exact key (n + 1) 0 s (by omega) h0 FU hn
/-- is this leaf to be told? -/
def lf (own all : List Rec) (d e : Nat) : Bool := decide (d ∈ difN (kidsV own []) (kidsV all [])) && decide (e ∈ difN (kidsV own [((d : Nat) : Int)]) (kidsV all [((d : Nat) : Int)]))
def pend (W : List Wy) (d e : Nat) : Prop := Wy.one d ∈ W ∨ Wy.two d e ∈ W
structure TI (own all : List Rec) (W : List Wy) (S : List Rec) : Prop where
  wi : WI W
  one : ∀ d, Wy.one d ∈ W → d ∈ difN (kidsV own []) (kidsV all [])
  two : ∀ d e, Wy.two d e ∈ W → lf own all d e = true
  st : ∀ r, r ∈ S ↔ (r ∈ all ∧ lf own all (pa r.key) (pb r.key) = true ∧ ¬ pend W (pa r.key) (pb r.key))
theorem lf_1 {own all : List Rec} {d e : Nat} (h : lf own all d e = true) : d ∈ difN (kidsV own []) (kidsV all []) := of_decide_eq_true (Bool.and_eq_true_iff.1 h).1
theorem lf_2 {own all : List Rec} {d e : Nat} (h : lf own all d e = true) : e ∈ difN (kidsV own [((d : Nat) : Int)]) (kidsV all [((d : Nat) : Int)]) := of_decide_eq_true (Bool.and_eq_true_iff.1 h).2
theorem TI.first (own all : List Rec) : TI own all (firstW own (kidsV all [])) [] := by
  refine ⟨WI.first _ _, fun d h => ?_, fun d e h => ?_, fun r => ⟨fun h => absurd h List.not_mem_nil, fun h => ?_⟩⟩
  · obtain ⟨d2, hd, h2⟩ := List.mem_map.1 h
    injection h2 with h2; subst h2; exact hd
  · obtain ⟨d2, hd, h2⟩ := List.mem_map.1 h
    cases h2
  · exact absurd (.inl (List.mem_map.2 ⟨_, lf_1 h.2.1, rfl⟩)) h.2.2
theorem foldl_sub {all : List Rec} (hs : SR all) (hv : ∀ r ∈ all, r.vers ≠ []) : ∀ {l S : List Rec}, (∀ r ∈ l, r ∈ all) → (∀ r ∈ S, r ∈ all) → ∀ r, r ∈ l.foldl withr S ↔ (r ∈ l ∨ r ∈ S)
  | [], S, _, _, r => by simp
  | a :: l, S, hl, hS, r => by
    have ha := hl a (by simp)
    have hS2 : ∀ r, r ∈ withr S a ↔ (r = a ∨ r ∈ S) := fun r => by
      rw [mem_withr]
      constructor
      · rintro (⟨h, _⟩ | ⟨h, _⟩)
        · exact .inl h
        · exact .inr h
      · rintro (h | h)
        · exact .inl ⟨h, hv a ha⟩
        · by_cases e : r.key = a.key
          · exact .inl ⟨sr_key hs (hS r h) ha e, hv a ha⟩
          · exact .inr ⟨h, e⟩
    rw [List.foldl_cons, foldl_sub hs hv (fun r h => hl r (List.mem_cons_of_mem _ h)) (fun r h => by
      rcases (hS2 r).1 h with rfl | h
      · exact ha
      · exact hS r h) r, hS2, List.mem_cons]
    constructor
    · rintro (h | h | h)
      · exact .inl (.inr h)
      · exact .inl (.inl h)
      · exact .inr h
    · rintro ((h | h) | h)
      · exact .inr (.inl h)
      · exact .inl h
      · exact .inr (.inr h)
theorem want_one (all : List Rec) {d : Nat} (hd : d < 16) : wantV all (Wy.one d).path = (kidsV all [((d : Nat) : Int)], [], true) := by
  unfold wantV
  show (bif okP [((d : Nat) : Int)] && decide (1 ≤ 1) then _ else _) = _
  rw [ok1 hd]; rfl
theorem want_two (all : List Rec) {d e : Nat} (hd : d < 16) (he : e < 16) : wantV all (Wy.two d e).path = ([], rcV all [((d : Nat) : Int), ((e : Nat) : Int)], true) := by
  unfold wantV
  show (bif okP [((d : Nat) : Int), ((e : Nat) : Int)] && decide (1 ≤ 2) then _ else _) = _
  rw [ok2 hd he]; rfl
theorem mem_rc {all : List Rec} {d e : Nat} (hd : d < 16) (he : e < 16) {r : Rec} : r ∈ rcV all [((d : Nat) : Int), ((e : Nat) : Int)] ↔ (r ∈ all ∧ pa r.key = d ∧ pb r.key = e) := by
  unfold rcV
  rw [ok2 hd he, cond_true, List.mem_filter, inK_eq, inK2, Bool.and_eq_true_iff, decide_eq_true_eq, decide_eq_true_eq]
/-- one answer that a cut gives -/
theorem told_step {own all S : List Rec} {W : List Wy} (hI : TI own all W S) (hA : Rcs all) (hs : SR all) (hv : ∀ r ∈ all, r.vers ≠ []) {x : Wy} (hx : x ∈ W) :
    (wantV all x.path).2.2 = true ∧ odd x (wantV all x.path).2.1 = false ∧ (∀ r ∈ (wantV all x.path).2.1, RecOk r) ∧ TI own all (W.erase x ++ rest own (wantV all x.path).1 x) (laidS x (wantV all x.path).2.1 S) := by
  have hok := hI.wi.ok x hx
  have hmE : ∀ y, y ∈ W.erase x ↔ (y ∈ W ∧ y ≠ x) := fun y => by rw [hI.wi.nd.mem_erase_iff, and_comm]
  cases x with
  | one d =>
    rw [want_one all hok]
    refine ⟨rfl, rfl, fun r h => absurd h List.not_mem_nil, hI.wi.told hx own _, fun d2 h => ?_, fun d2 e2 h => ?_, fun r => ?_⟩
    · rcases List.mem_append.1 h with h | h
      · exact hI.one d2 ((hmE _).1 h).1
      · obtain ⟨e, _, h2⟩ := List.mem_map.1 (show Wy.one d2 ∈ List.map (Wy.two d) _ from h)
        cases h2
    · rcases List.mem_append.1 h with h | h
      · exact hI.two d2 e2 ((hmE _).1 h).1
      · obtain ⟨e, he, h2⟩ := List.mem_map.1 (show Wy.two d2 e2 ∈ List.map (Wy.two d) _ from h)
        injection h2 with h3 h4
        subst h3 h4
        unfold lf
        rw [decide_eq_true (hI.one _ hx), decide_eq_true he]; rfl
    · show r ∈ S ↔ _
      rw [hI.st r]
      constructor
      · rintro ⟨h1, h2, h3⟩
        refine ⟨h1, h2, fun h4 => h3 ?_⟩
        rcases h4 with h4 | h4
        · rcases List.mem_append.1 h4 with h4 | h4
          · exact .inl ((hmE _).1 h4).1
          · obtain ⟨e, _, h5⟩ := List.mem_map.1 (show Wy.one _ ∈ List.map (Wy.two d) _ from h4)
            cases h5
        · rcases List.mem_append.1 h4 with h4 | h4
          · exact .inr ((hmE _).1 h4).1
          · obtain ⟨e, _, h5⟩ := List.mem_map.1 (show Wy.two _ _ ∈ List.map (Wy.two d) _ from h4)
            injection h5 with h6 h7
            rw [← h6]; exact .inl hx
      · rintro ⟨h1, h2, h3⟩
        refine ⟨h1, h2, fun h4 => h3 ?_⟩
        rcases h4 with h4 | h4
        · by_cases e : pa r.key = d
          · refine .inr (List.mem_append_right _ ?_)
            have := lf_2 h2
            rw [e] at this ⊢
            exact List.mem_map.2 ⟨_, this, rfl⟩
          · exact .inl (List.mem_append_left _ ((hmE _).2 ⟨h4, fun h => e (by injection h)⟩))
        · exact .inr (List.mem_append_left _ ((hmE _).2 ⟨h4, fun h => by cases h⟩))
  | two d e =>
    rw [want_two all hok.1 hok.2]
    have hno : Wy.one d ∉ W := hI.wi.no d e hx
    have hsub : ∀ r ∈ rcV all [((d : Nat) : Int), ((e : Nat) : Int)], r ∈ all := fun r h => rcV_sub h
    refine ⟨rfl, ?_, fun r h => (hA.ok r (hsub r h)).1, hI.wi.told hx own _, fun d2 h => ?_, fun d2 e2 h => ?_, fun r => ?_⟩
    · show List.any _ _ = false
      rw [List.any_eq_false]
      intro r hr
      obtain ⟨h1, h2, h3⟩ := (mem_rc hok.1 hok.2).1 hr
      have : ben (.two d e) r = true := by
        unfold ben
        rw [(hA.ok r h1).2, h2, h3, Bool.true_and]
        exact decide_eq_true rfl
      simp [this]
    · have h : Wy.one d2 ∈ W.erase (.two d e) ++ [] := h
      rw [List.append_nil] at h
      exact hI.one d2 ((hmE _).1 h).1
    · have h : Wy.two d2 e2 ∈ W.erase (.two d e) ++ [] := h
      rw [List.append_nil] at h
      exact hI.two d2 e2 ((hmE _).1 h).1
    · show r ∈ List.foldl withr S (rcV all [((d : Nat) : Int), ((e : Nat) : Int)]) ↔ (_ ∧ _ ∧ ¬ pend (W.erase (.two d e) ++ []) _ _)
      rw [List.append_nil, foldl_sub hs hv hsub (fun r h => ((hI.st r).1 h).1), hI.st r, mem_rc hok.1 hok.2]
      constructor
      · rintro (⟨h1, h2, h3⟩ | ⟨h1, h2, h3⟩)
        · refine ⟨h1, by rw [h2, h3]; exact hI.two d e hx, fun h4 => ?_⟩
          rw [h2, h3] at h4
          rcases h4 with h4 | h4
          · exact hno ((hmE _).1 h4).1
          · exact ((hmE _).1 h4).2 rfl
        · refine ⟨h1, h2, fun h4 => h3 ?_⟩
          rcases h4 with h4 | h4
          · exact .inl ((hmE _).1 h4).1
          · exact .inr ((hmE _).1 h4).1
      · rintro ⟨h1, h2, h3⟩
        by_cases hde : pa r.key = d ∧ pb r.key = e
        · exact .inl ⟨h1, hde.1, hde.2⟩
        · refine .inr ⟨h1, h2, fun h4 => h3 ?_⟩
          rcases h4 with h4 | h4
          · exact .inl ((hmE _).2 ⟨h4, fun h => by cases h⟩)
          · exact .inr ((hmE _).2 ⟨h4, fun h => hde (by injection h with h5 h6; exact ⟨h5, h6⟩)⟩)
/-! ### how long it takes -/
theorem sum_erase {w : Wy → Nat} : ∀ {W : List Wy} {x : Wy}, x ∈ W → ((W.erase x).map w).sum + w x = (W.map w).sum
  | y :: W, x, h => by
    by_cases e : y = x
    · subst e; rw [List.erase_cons_head, List.map_cons, List.sum_cons]; omega
    · rw [List.erase_cons_tail (by simpa using e), List.map_cons, List.sum_cons, List.map_cons, List.sum_cons]
      have := sum_erase (w := w) (W := W) (x := x) (by
        rcases List.mem_cons.1 h with h | h
        · exact absurd h.symm e
        · exact h)
      omega
def mw : Wy → Nat
  | .one _ => 17
  | .two _ _ => 1
def mu (W : List Wy) : Nat := (W.map mw).sum
theorem sum_const {α : Type} (k : Nat) : ∀ (l : List α), (l.map (fun _ => k)).sum = l.length * k
  | [] => by simp
  | _ :: l => by rw [List.map_cons, List.sum_cons, sum_const k l, List.length_cons, Nat.add_mul]; omega
theorem difN_len (a b : List Int) : (difN a b).length ≤ 16 := by have := dif_len16 a b; unfold dif at this; rwa [List.length_map] at this
theorem mu_step {W : List Wy} {x : Wy} (hx : x ∈ W) (own : List Rec) (hashes : List Int) : mu (W.erase x ++ rest own hashes x) + 1 ≤ mu W := by
  have h1 := sum_erase (w := mw) hx
  unfold mu
  rw [List.map_append, List.sum_append]
  cases x with
  | one d =>
    have h2 : ((rest own hashes (.one d)).map mw).sum = (difN (kidsV own [((d : Nat) : Int)]) hashes).length * 1 := by
      show (((difN (kidsV own [((d : Nat) : Int)]) hashes).map (Wy.two d)).map mw).sum = _
      rw [List.map_map]
      exact sum_const 1 _
    have h3 := difN_len (kidsV own [((d : Nat) : Int)]) hashes
    have h4 : mw (.one d) = 17 := rfl
    omega
  | two d e =>
    have h2 : ((rest own hashes (.two d e)).map mw).sum = 0 := rfl
    have h4 : mw (.two d e) = 1 := rfl
    omega
theorem mu_first (own : List Rec) (hashes : List Int) : mu (firstW own hashes) ≤ 272 := by
  unfold mu firstW
  rw [List.map_map]
  have h2 : (List.map (mw ∘ Wy.one) (difN (kidsV own []) hashes)).sum = (difN (kidsV own []) hashes).length * 17 := sum_const 17 _
  have h3 := difN_len (kidsV own []) hashes
  omega
/-- what is staged in the end -/
def FS (own all : List Rec) : List Rec := all.filter (fun r => lf own all (pa r.key) (pb r.key))
theorem TI.done {own all S : List Rec} (h : TI own all [] S) (hS : SR S) (hs : SR all) : S = FS own all :=
  sr_ext hS (sr_filter _ hs) fun r => by
    rw [h.st r]
    unfold FS
    rw [List.mem_filter]
    constructor
    · rintro ⟨h1, h2, _⟩; exact ⟨h1, h2⟩
    · rintro ⟨h1, h2⟩
      refine ⟨h1, h2, fun h3 => ?_⟩
      rcases h3 with h3 | h3 <;> cases h3
/-- one round -/
theorem round_ {own all S : List Rec} {W : List Wy} {p : Opull_Pull} {c : Opull_Cut} {id : Int} {vec : List Int} (hp : PS p own S W) (hc : CS c id vec all) (hI : TI own all W S) (hA : Rcs all) (hs : SR all) (hv : ∀ r ∈ all, r.vers ≠ []) {x : Wy} (hx : x ∈ W) :
    ∃ c' p' S', m_pull_Cut_Want c x.path = some (c', wantV all x.path) ∧ (wantV all x.path).2.2 = true ∧ m_pull_Pull_Tell p x.path (wantV all x.path).1 (wantV all x.path).2.1 = some (p', true) ∧ CS c' id vec all ∧ PS p' own S' (W.erase x ++ rest own (wantV all x.path).1 x) ∧ TI own all (W.erase x ++ rest own (wantV all x.path).1 x) S' ∧ p'.begun = p.begun := by
  obtain ⟨h1, h2, h3, h4⟩ := told_step hI hA hs hv hx
  obtain ⟨c', e1, g1⟩ := e_CWant hc x.path
  obtain ⟨p', e2, g2, g3, g4, g5⟩ := tell_yes hp hI.wi hx (wantV all x.path).1 h3 h2
  exact ⟨c', p', _, e1, h1, e2, g1, g2, h4, g4⟩
end Fw
end Go.Proofs.YtiakfgdgafljnaaGreat

namespace Go.Proofs.YtiakfgdgafljnaaGreat
namespace Fw
set_option linter.unusedVariables false
set_option linter.unusedSimpArgs false
set_option linter.unusedSectionVars false

/-! ### few -/
theorem difN_comm (a b : List Int) : difN a b = difN b a := by
  unfold difN
  refine List.filter_congr fun i _ => ?_
  rw [Bool.eq_iff_iff, bne_iff_ne, bne_iff_ne]
  exact ⟨fun h e => h e.symm, fun h e => h e.symm⟩
/-- how many leaves are to be told yet -/
def lw (own all : List Rec) : Wy → Nat
  | .one d => (difN (kidsV own [((d : Nat) : Int)]) (kidsV all [((d : Nat) : Int)])).length
  | .two _ _ => 1
def pl (own all : List Rec) (W : List Wy) : Nat := (W.map (lw own all)).sum
def one2 : Wy → Nat
  | .one _ => 0
  | .two _ _ => 1
theorem pl_step {own all : List Rec} {W : List Wy} (hok : ∀ x ∈ W, x.ok) {x : Wy} (hx : x ∈ W) : pl own all (W.erase x ++ rest own (wantV all x.path).1 x) + one2 x = pl own all W := by
  have h1 := sum_erase (w := lw own all) hx
  unfold pl
  rw [List.map_append, List.sum_append]
  cases x with
  | one d =>
    rw [want_one all (hok _ hx)]
    have h2 : ((rest own (kidsV all [((d : Nat) : Int)]) (.one d)).map (lw own all)).sum = (difN (kidsV own [((d : Nat) : Int)]) (kidsV all [((d : Nat) : Int)])).length * 1 := by
      show (((difN (kidsV own [((d : Nat) : Int)]) (kidsV all [((d : Nat) : Int)])).map (Wy.two d)).map (lw own all)).sum = _
      rw [List.map_map]
      exact sum_const 1 _
    have h4 : lw own all (.one d) = (difN (kidsV own [((d : Nat) : Int)]) (kidsV all [((d : Nat) : Int)])).length := rfl
    have h5 : one2 (.one d) = 0 := rfl
    simp only
    omega
  | two d e =>
    have h2 : ((rest own (wantV all (Wy.two d e).path).1 (.two d e)).map (lw own all)).sum = 0 := rfl
    have h4 : lw own all (.two d e) = 1 := rfl
    have h5 : one2 (.two d e) = 1 := rfl
    omega
theorem pl_first {m a : List Rec} (hs : SR a) : pl a (m.foldl withr a) (firstW a (kidsV (m.foldl withr a) [])) ≤ m.length := by
  unfold pl firstW
  rw [List.map_map]
  have hlt : ∀ d ∈ difN (kidsV a []) (kidsV (m.foldl withr a) []), d < 16 := fun d hd => (difN_mem hd).1
  have hnd := difN_nodup (kidsV a []) (kidsV (m.foldl withr a) [])
  generalize difN (kidsV a []) (kidsV (m.foldl withr a) []) = D at *
  have key : ∀ i, i ≤ D.length → ((D.take i).map (lw a (m.foldl withr a) ∘ Wy.one)).sum ≤ cI m (D.take i) := by
    intro i
    induction i with
    | zero => intro _; exact Nat.zero_le _
    | succ i ih =>
      intro hi
      have hi : i < D.length := hi
      have hnot : gt D i ∉ D.take i := by
        have := hnd
        rw [← List.take_append_drop i D, drop_gt hi, List.nodup_append] at this
        exact fun h => this.2.2 _ h _ List.mem_cons_self rfl
      have h1 := ih (by omega)
      have h2 := cI_snoc m hnot
      have h3 := sub_len (m := m) hs (hlt _ (gt_mem hi))
      rw [take_gt hi, List.map_append, List.sum_append, h2]
      have h4 : ((List.map (lw a (m.foldl withr a) ∘ Wy.one) [gt D i]).sum) = (difN (kidsV a [((gt D i : Nat) : Int)]) (kidsV (m.foldl withr a) [((gt D i : Nat) : Int)])).length := by
        simp only [List.map_cons, List.map_nil, List.sum_cons, List.sum_nil, Nat.add_zero]; rfl
      omega
  have := key D.length (Nat.le_refl _)
  rw [List.take_length] at this
  exact Nat.le_trans this (cI_le m D)
theorem two_len (x : Wy) : (((x.path.length : Nat) : Int) == 2) = decide (one2 x = 1) := by cases x <;> rfl
theorem few19_law {list more : List Rec} (hok : ∀ r ∈ list, RecOk r) (hl : list.length ≤ 1048576) (hokm : ∀ r ∈ more, RecOk r) (hlm : more.length ≤ 1048576) : m_firthlaw19_PullFew list more = some true := by
  unfold m_firthlaw19_PullFew
  rw [awake19, Option.bind_some, Bool.not_true, cond_false]
  rcases all_or list with hr | hr
  · rcases all_or more with hrm | hrm
    · rw [e_Held_t hok (by rw [lim_v]; omega) hr, Option.bind_some, e_Held_t hokm (by rw [lim_v]; omega) hrm, Option.bind_some]
      have hA := addL_rcs2 hok hr hl
      have hM := addL_rcs2 hokm hrm hlm
      have hla := addL_len list
      have hlm2 := addL_len more
      have hsa := addL_sr list
      have hva := addL_vers list
      generalize addL list = a at *
      generalize addL more = m at *
      have hlB := foldl_len m a
      have hsB : SR (m.foldl withr a) := foldl_sr m a hsa
      have hvB : ∀ x ∈ m.foldl withr a, x.vers ≠ [] := foldl_vers hva
      have hokB : ∀ r ∈ m.foldl withr a, RecOk r := fun r h => by
        rcases foldl_mem h with h | h
        · exact (hM.ok r h).1
        · exact (hA.ok r h).1
      have hrB : ∀ r ∈ m.foldl withr a, rr r = true := fun r h => by
        rcases foldl_mem h with h | h
        · exact (hM.ok r h).2
        · exact (hA.ok r h).2
      simp only [Bool.not_true, Bool.or_self, cond_false]
      refine forI_run (fun i s => s = (m.take i).foldl withr a) (fun s hs => ?_) (fun f i s hi hs hf => ?_) rfl
      · rw [List.take_length] at hs
        subst hs
        have htop := pl_first (m := m) hsa
        have htop2 := top_len (m := m) hsa
        have hlB : (m.foldl withr a).length ≤ 4194304 := by omega
        have hBB := addL_self hsB hvB
        have hAA := addL_self hsa hva
        generalize m.foldl withr a = B at *
        obtain ⟨c, e1, c1⟩ := e_NewCut_w 1 (vec := [5]) hokB (by omega) hrB rfl
        obtain ⟨p, e2, p1, p2, p3, p4⟩ := e_NewPull_w 1 hokB (by omega) hrB
        obtain ⟨q, e3, q1, q2, q3, q4⟩ := e_NewPull_t 1 (fun r h => (hA.ok r h).1) (by omega) (fun r h => (hA.ok r h).2)
        rw [hBB] at c1 p1
        rw [hAA] at q1
        have hB : Rcs B := ⟨fun r h => ⟨hokB r h, hrB r h⟩, by omega⟩
        rw [e1, Option.bind_some, e2, Option.bind_some, e3, Option.bind_some]
        simp only [Option.isNone_some, Bool.or_self, bne_self_eq_false, cond_false, Option.bind_some]
        obtain ⟨c2, e4, c3⟩ := e_COpen c1
        obtain ⟨p5, e5, p6, p7, p8, p9⟩ := e_Begin p1 (vec := [5]) (kidsV B []) p3 rfl
        obtain ⟨c4, e6, c5⟩ := e_COpen c3
        obtain ⟨q5, e7, q6, q7, q8, q9⟩ := e_Begin q1 (vec := [5]) (kidsV B []) q3 rfl
        rw [e_CVec c1, Option.bind_some, e4, Option.bind_some]
        simp only
        rw [e5, Option.bind_some, e_CVec c3, Option.bind_some, e6, Option.bind_some]
        simp only
        rw [e7, Option.bind_some]
        simp only
        have hfirst : firstW B (kidsV B []) = [] := by unfold firstW; rw [difN_self]; rfl
        rw [e_Done, Option.bind_some, p8, p6.wants, hfirst]
        simp only [List.map_nil, List.isEmpty_nil, Bool.and_self, Bool.not_true, Bool.not_false, cond_true]
        rw [e_Wants q6.wants (WI.first _ _).len, Option.bind_some, List.length_map]
        have hwl : (firstW a (kidsV B [])).length ≤ m.length := by
          unfold firstW
          rw [List.length_map, difN_comm]; exact htop2
        rw [decide_eq_false (show ¬ ((m.length : Nat) : Int) < (((firstW a (kidsV B [])).length : Nat) : Int) by omega), cond_false]
        refine loopN_run (fun i (s : Int × Int × Opull_Pull × Opull_Cut) => ∃ (W : List Wy) (S : List Rec) (lv : Nat), s.1 = ((lv : Nat) : Int) ∧ s.2.1 = ((i : Nat) : Int) ∧ PS s.2.2.1 a S W ∧ CS s.2.2.2 1 [5] B ∧ TI a B W S ∧ s.2.2.1.begun = true ∧ mu W + i ≤ 272 ∧ lv + pl a B W ≤ m.length) 272 (fun i s hI => ?_) (fun f i s hI hf => ?_) (by unfold FU; omega) ⟨_, [], 0, rfl, rfl, q6, c5, TI.first a B, q8, by have := mu_first a (kidsV B []); omega, by omega⟩
        · obtain ⟨W, S, lv, _, _, _, _, _, _, h, _⟩ := hI; omega
        · obtain ⟨lvs, ii, q, c⟩ := s
          obtain ⟨W, S, lv, h1, h2, h3, h4, h5, h6, h7, h8⟩ := hI
          simp only at h1 h2 h3 h4 h6
          subst h1 h2
          unfold m_firthlaw19_PullFew_b6
          simp only
          rw [e_Done, gcall_s, Option.bind_some, Option.bind_some, h6, h3.wants, isE, decide_eq_true (show ((i : Nat) : Int) < 300 by omega)]
          simp only [Bool.true_and, cond_true]
          by_cases h0 : W = []
          · subst h0
            simp only [List.isEmpty_nil, Bool.not_true, cond_false, Bool.true_and]
            have : pl a B [] = 0 := rfl
            rw [decide_eq_true (show ((lv : Nat) : Int) ≤ ((m.length : Nat) : Int) by omega)]
          · have hpos : 0 < W.length := List.length_pos_iff.2 h0
            have hWl := h5.wi.len
            rw [show W.isEmpty = false by cases W with | nil => exact absurd rfl h0 | cons x l => rfl]
            simp only [Bool.not_false, cond_true]
            rw [e_Wants h3.wants h5.wi.len, Option.bind_some, List.length_map, chk_t (decide_eq_true hpos), gt_map Wy.path hpos, two_len]
            have hx := gt_mem hpos
            obtain ⟨c6, q10, S2, g1, g2, g3, g4, g5, g6, g7⟩ := round_ h3 h4 h5 hB hsB hvB hx
            have hmu := mu_step hx a (wantV B (gt W 0).path).1
            have hpl := pl_step (own := a) (all := B) h5.wi.ok hx
            have hgo : ∀ lv2 : Nat, lv2 = lv + one2 (gt W 0) → m_firthlaw19_PullFew_j7 ((i : Nat) : Int) q c f (W.map Wy.path) ((lv2 : Nat) : Int) = some true := fun lv2 hl2 => by
              unfold m_firthlaw19_PullFew_j7
              rw [gt_map Wy.path hpos, g1, Option.bind_some]
              simp only
              rw [g2, g3, Option.bind_some, w64_i (by unfold I64; omega)]
              exact hf (((lv2 : Nat) : Int), ((i : Nat) : Int) + 1, q10, c6) ⟨_, S2, lv2, rfl, by show ((i : Nat) : Int) + 1 = ((i + 1 : Nat) : Int); omega, g5, g4, g6, by show q10.begun = true; rw [g7]; exact h6, by omega, by omega⟩
            by_cases ho : one2 (gt W 0) = 1
            · rw [decide_eq_true ho, cond_true, w64_i (by unfold I64; omega)]
              have := hgo (lv + 1) (by omega)
              rw [show (((lv + 1 : Nat)) : Int) = ((lv : Nat) : Int) + 1 by omega] at this
              exact this
            · rw [decide_eq_false ho, cond_false]
              refine hgo lv ?_
              have : one2 (gt W 0) = 0 ∨ one2 (gt W 0) = 1 := by cases gt W 0 <;> simp [one2]
              omega
      · have hfl := foldl_len (m.take i) a
        rw [List.length_take] at hfl
        unfold m_firthlaw19_PullFew_b1
        rw [e_With (by rw [hs, lim_v]; omega), Option.bind_some]
        exact hf _ (by rw [take_gt hi, List.foldl_append, hs]; rfl)
    · rw [e_Held_t hok (by rw [lim_v]; omega) hr, Option.bind_some, e_Held_f hokm (by rw [lim_v]; omega) hrm, Option.bind_some]; rfl
  · rw [e_Held_f hok (by rw [lim_v]; omega) hr, Option.bind_some]
    rcases all_or more with hrm | hrm
    · rw [e_Held_t hokm (by rw [lim_v]; omega) hrm, Option.bind_some]; rfl
    · rw [e_Held_f hokm (by rw [lim_v]; omega) hrm, Option.bind_some]; rfl
theorem p_firthlaw19_PullFew {Γ : Gh} {A : Option Addr} {c : Nat} {list : List Rec} (hs : Sl recT Γ A list) (hc : list.length ≤ c) {A2 : Option Addr} {c2 : Nat} {more : List Rec} (hs2 : Sl recT Γ A2 more) (hc2 : more.length ≤ c2) (m1 : bkL Rec.bk list ≤ 1048576) (m2 : bkL Rec.bk more ≤ 1048576) :
    m_firthlaw19_PullFew list more = some true := few19_law (sl_recOk hs) (recs_len m1) (sl_recOk hs2) (recs_len m2)
end Fw
end Go.Proofs.YtiakfgdgafljnaaGreat
