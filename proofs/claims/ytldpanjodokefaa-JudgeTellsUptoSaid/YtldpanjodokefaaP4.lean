/- What is behind a dot; the trial that the program makes. No condition. -/
import Derived.Test.YtldpanjodokefaaP3
namespace Go.Proofs.Ytldpanjodokefaa
namespace Fw
set_option linter.unusedVariables false
set_option linter.unusedSimpArgs false
set_option linter.unusedSectionVars false
open Go.RowKit
/-- x is behind d -/
inductive Bh (l : Acts) : Dot → Dot → Prop
  | one {d x : Dot} {i : Nat} : fst l d = some i → x ∈ stp l i → Bh l d x
  | two {d e x : Dot} {i : Nat} : fst l d = some i → e ∈ stp l i → Bh l e x → Bh l d x
theorem Bh.fst {l : Acts} {d x : Dot} (h : Bh l d x) : ∃ i, fst l d = some i := by
  cases h with
  | one h _ => exact ⟨_, h⟩
  | two h _ _ => exact ⟨_, h⟩
theorem Bh.trans {l : Acts} {d e x : Dot} (h : Bh l d e) (h' : Bh l e x) : Bh l d x := by
  induction h with
  | one h1 h2 => exact .two h1 h2 h'
  | two h1 h2 _ ih => exact .two h1 h2 (ih h')
/-- all dots that a list tells -/
def dts (l : Acts) : List Dot := l.flatMap tells
theorem stp_dts {l : Acts} {i : Nat} {x : Dot} (h : x ∈ stp l i) : x ∈ dts l := by
  obtain ⟨j, h1, h2, _, _, h5⟩ := mem_stp.1 h
  exact List.mem_flatMap.2 ⟨gt l j, by rw [gt_eq h2]; exact List.getElem_mem h2, h5⟩
theorem Bh.dts {l : Acts} {d x : Dot} (h : Bh l d x) : x ∈ dts l := by
  induction h with
  | one _ h2 => exact stp_dts h2
  | two _ _ _ ih => exact ih
open Classical in
noncomputable def bhS (l : Acts) (d : Dot) : DS := unl [] ((dts l).filter fun x => decide (Bh l d x))
theorem bhS_cs (l : Acts) (d : Dot) : CS (bhS l d) := unl_cs cs_nil
theorem mem_bhS {l : Acts} {d x : Dot} : x ∈ kys (bhS l d) ↔ Bh l d x := by
  unfold bhS
  rw [mem_unl]
  simp only [kys, List.map_nil, List.not_mem_nil, false_or, List.mem_filter, decide_eq_true_eq]
  exact ⟨fun h => h.2, fun h => ⟨h.dts, h⟩⟩
/-- the second map, told by a function -/
def bsm (l : Acts) (S : Dot → DS) : List (Dot × DS) := (firsts l).map fun p => (p.1, S p.1)
theorem mget_map {α β : Type} {f : Dot → α → β} {d : Dot} : ∀ {m : List (Dot × α)}, mget d (m.map fun p => (p.1, f p.1 p.2)) = (mget d m).map (f d)
  | [] => rfl
  | p :: m => by
    simp only [List.map_cons, mget]
    split
    · rename_i h; rw [h]; rfl
    · exact mget_map
theorem mget_bsm {l : Acts} {S : Dot → DS} {d : Dot} : mget d (bsm l S) = (fst l d).map fun _ => S d := by
  unfold bsm
  rw [mget_map (f := fun d (_ : Int) => S d), mget_firsts]
  cases fst l d <;> rfl
theorem mput_map {α β : Type} {f g : Dot → α → β} {d : Dot} {v : β} (hv : ∀ a, g d a = v) (ho : ∀ e a, e ≠ d → g e a = f e a) : ∀ {m : List (Dot × α)}, (m.map (·.1)).Nodup → d ∈ m.map (·.1) → mput d v (m.map fun p => (p.1, f p.1 p.2)) = m.map fun p => (p.1, g p.1 p.2)
  | [], _, h => by cases h
  | p :: m, hn, h => by
    rw [List.map_cons, List.nodup_cons] at hn
    simp only [List.map_cons]
    unfold mput
    by_cases he : d = p.1
    · simp only [he, if_true]
      rw [← he, hv]
      congr 1
      refine List.map_congr_left fun q hq => ?_
      have : q.1 ≠ d := fun e => hn.1 (by rw [← he, ← e]; exact List.mem_map.2 ⟨q, hq, rfl⟩)
      rw [ho _ _ this]
    · simp only [he, if_false]
      rw [ho _ _ (fun e => he e.symm), mput_map hv ho hn.2 (by
        rcases List.mem_cons.1 h with e | e
        · exact absurd e he
        · exact e)]
def upS (S : Dot → DS) (d : Dot) (v : DS) : Dot → DS := fun e => if e = d then v else S e
theorem mput_bsm {l : Acts} {S : Dot → DS} {d : Dot} {v : DS} {i : Nat} (h : fst l d = some i) : mput d v (bsm l S) = bsm l (upS S d v) := by
  unfold bsm
  refine mput_map (f := fun d (_ : Int) => S d) (g := fun e (_ : Int) => upS S d v e) (fun _ => by simp [upS]) (fun e _ he => by simp [upS, he]) (firsts_nodup l) ?_
  exact List.mem_map.2 ⟨(d, (i : Int)), mem_firsts.2 ⟨i, h, rfl⟩, rfl⟩
/-- a trial, told by a function -/
def trl (l : Acts) (S : Dot → DS) : Ojudge_trial := ⟨l, firsts l, bsm l S⟩
theorem bhd_trl {l : Acts} {S : Dot → DS} {d : Dot} : bhd (trl l S) d = if (fst l d).isSome then S d else [] := by
  unfold bhd trl
  rw [mget_bsm]
  cases fst l d <;> rfl
/-- how much is known -/
def siz (l : Acts) (S : Dot → DS) : Nat := ((firsts l).map fun p => (S p.1).length).sum
structure Invt (l : Acts) (S : Dot → DS) : Prop where
  cs : ∀ d, CS (S d)
  le : ∀ d, (fst l d).isSome = true → ∀ x ∈ kys (S d), Bh l d x
def clo (l : Acts) (S : Dot → DS) : Prop := ∀ d i, fst l d = some i → ∀ x ∈ kys (sawS (trl l S) i), x ∈ kys (S d)
theorem clo_eq {l : Acts} {S : Dot → DS} (hI : Invt l S) (hc : clo l S) : bsm l S = bsm l (bhS l) := by
  unfold bsm
  refine List.map_congr_left fun p hp => ?_
  obtain ⟨k, h1, _⟩ := mem_firsts.1 (show (p.1, p.2) ∈ firsts l from hp)
  have key : ∀ d x, Bh l d x → x ∈ kys (S d) := by
    intro d x h
    induction h with
    | @one d x i h1 h2 => exact hc d i h1 x (mem_sawS.2 ⟨x, h2, .inl rfl⟩)
    | @two d e x i h1 h2 h3 ih =>
      refine hc d i h1 x (mem_sawS.2 ⟨e, h2, .inr ?_⟩)
      obtain ⟨k, hk⟩ := h3.fst
      rw [bhd_trl, hk]; exact ih
  rw [show S p.1 = bhS l p.1 from CS.ext (hI.cs _) (bhS_cs _ _) fun x => ⟨fun hx => mem_bhS.2 (hI.le _ (by rw [h1]; rfl) x hx), fun hx => key _ _ (mem_bhS.1 hx)⟩]
theorem saw_bh {l : Acts} {S : Dot → DS} (hI : Invt l S) {d : Dot} {i : Nat} (h : fst l d = some i) {x : Dot} (hx : x ∈ kys (sawS (trl l S) i)) : Bh l d x := by
  obtain ⟨e, h1, h2⟩ := mem_sawS.1 hx
  rcases h2 with h2 | h2
  · rw [h2]; exact .one h h1
  · rw [bhd_trl] at h2
    split at h2
    · rename_i hs; exact .two h h1 (hI.le e hs x h2)
    · simp [kys] at h2
theorem sum_le {α : Type} {f g : α → Nat} : ∀ {m : List α}, (∀ p ∈ m, f p ≤ g p) → (m.map f).sum ≤ (m.map g).sum
  | [], _ => Nat.le_refl _
  | p :: m, h => by
    have h1 := h p List.mem_cons_self
    have h2 := sum_le (m := m) fun q hq => h q (List.mem_cons_of_mem _ hq)
    simp only [List.map_cons, List.sum_cons]; omega
theorem sum_lt {α : Type} {f g : α → Nat} : ∀ {m : List α}, (∀ p ∈ m, f p ≤ g p) → (∃ p ∈ m, f p < g p) → (m.map f).sum < (m.map g).sum
  | [], _, ⟨p, hp, _⟩ => by cases hp
  | p :: m, h, ⟨q, hq, hl⟩ => by
    have h1 := h p List.mem_cons_self
    have hm : ∀ r ∈ m, f r ≤ g r := fun r hr => h r (List.mem_cons_of_mem _ hr)
    have h2 := sum_le hm
    simp only [List.map_cons, List.sum_cons]
    rcases List.mem_cons.1 hq with e | e
    · subst e; omega
    · have := sum_lt hm ⟨q, e, hl⟩; omega
theorem siz_le (l : Acts) {S : Dot → DS} (hI : Invt l S) : siz l S ≤ l.length * (dts l).length := by
  have h1 : siz l S ≤ ((firsts l).map fun _ => (dts l).length).sum := by
    refine sum_le fun p hp => ?_
    obtain ⟨k, h1, _⟩ := mem_firsts.1 (show (p.1, p.2) ∈ firsts l from hp)
    have := nodup_len (CL.nodup (hI.cs p.1)) fun x hx => (hI.le p.1 (by rw [h1]; rfl) x hx).dts
    simpa [kys] using this
  have h2 : ((firsts l).map fun _ => (dts l).length).sum = (firsts l).length * (dts l).length := by
    rw [List.map_const', List.sum_replicate_nat]
  have h3 : (firsts l).length ≤ l.length := by have := fsL_len (l := l) (i := 0) (m := []); simpa [firsts] using this
  rw [h2] at h1
  exact Nat.le_trans h1 (Nat.mul_le_mul_right _ h3)
/-- where a round of the second loop stands: which dots are done -/
structure Rnd (l : Acts) (S0 S : Dot → DS) (g : Bool) (done : List (Dot × Int)) : Prop where
  inv : Invt l S
  up : ∀ d, (S0 d).length ≤ (S d).length
  t : g = true → siz l S0 < siz l S
  f : g = false → S = S0 ∧ ∀ p ∈ done, ∀ i, fst l p.1 = some i → ∀ x ∈ kys (sawS (trl l S0) i), x ∈ kys (S0 p.1)
theorem e_round {l : Acts} (hf : fine l) {S S0 : Dot → DS} {g : Bool} {done : List (Dot × Int)} (h : Rnd l S0 S g done) {p : Dot × Int} (hp : p ∈ firsts l) :
    ∃ g' S', m_judge_try_l0_b9 l (firsts l) (g, bsm l S) p = some (.inl (g', bsm l S')) ∧ Rnd l S0 S' g' (p :: done) := by
  obtain ⟨d, v⟩ := p
  obtain ⟨i, h1, rfl⟩ := mem_firsts.1 hp
  have hil := (fst_some h1).1
  unfold m_judge_try_l0_b9
  have e1 : mget d (bsm l S) = some (S d) := by rw [mget_bsm, h1]; rfl
  have hsw : m_judge_trial_saw_l1 (⟨l, firsts l, bsm l S⟩ : Ojudge_trial) (i : Int) = some (sawS (trl l S) i) := e_saw (t := trl l S) hf hil
  simp only [e1, Option.isSome_some, chk, cond_true, Option.getD_some, hsw, Option.bind_some, e_join (h.inv.cs d)]
  have hul := un_len (t := sawS (trl l S) i) (h.inv.cs d)
  have hS' : Invt l (upS S d (un (S d) (sawS (trl l S) i))) := by
    refine ⟨fun e => ?_, fun e he x hx => ?_⟩
    · unfold upS; split
      · exact un_cs (h.inv.cs d)
      · exact h.inv.cs e
    · unfold upS at hx
      split at hx
      · rename_i hed; subst hed
        rcases mem_un.1 hx with hx | hx
        · exact h.inv.le e he x hx
        · exact saw_bh h.inv h1 hx
      · exact h.inv.le e he x hx
  have hup : ∀ e, (S e).length ≤ (upS S d (un (S d) (sawS (trl l S) i)) e).length := by
    intro e; unfold upS; split
    · rename_i hed; subst hed; exact hul.1
    · exact Nat.le_refl _
  cases hg : decide ((S d).length < (un (S d) (sawS (trl l S) i)).length) with
  | true =>
    simp only [cond_true]
    refine ⟨true, _, by rw [mput_bsm h1], hS', fun e => Nat.le_trans (h.up e) (hup e), fun _ => ?_, fun e => nomatch e⟩
    have h3 : siz l S0 ≤ siz l S := sum_le fun p _ => h.up p.1
    refine Nat.lt_of_le_of_lt h3 (sum_lt (fun p _ => hup p.1) ⟨_, hp, ?_⟩)
    show (S d).length < (upS S d (un (S d) (sawS (trl l S) i)) d).length
    unfold upS; rw [if_pos rfl]; exact of_decide_eq_true hg
  | false =>
    simp only [cond_false]
    have hun := hul.2 (Nat.le_of_not_lt (of_decide_eq_false hg))
    have hSS : upS S d (un (S d) (sawS (trl l S) i)) = S := by
      funext e; unfold upS; split
      · rename_i hed; rw [hed, hun]
      · rfl
    refine ⟨g, S, by rw [mput_bsm h1, hSS], h.inv, h.up, h.t, fun hgf => ?_⟩
    obtain ⟨h4, h5⟩ := h.f hgf
    refine ⟨h4, fun q hq j hj x hx => ?_⟩
    rcases List.mem_cons.1 hq with e | e
    · subst e
      rw [h1] at hj; injection hj with hj; subst hj
      rw [h4] at hun
      have : x ∈ kys (un (S0 d) (sawS (trl l S0) i)) := mem_un.2 (.inr hx)
      rw [hun] at this; exact this
    · exact h5 q e j hj x hx
theorem e_rounds {l : Acts} (hf : fine l) {S0 : Dot → DS} {K : Bool × List (Dot × DS) → Option Ojudge_trial} {r : Ojudge_trial} : ∀ {L : List (Dot × Int)} {S : Dot → DS} {g : Bool} {done : List (Dot × Int)}, (∀ p ∈ L, p ∈ firsts l) → Rnd l S0 S g done →
    (∀ S' g' done', Rnd l S0 S' g' done' → (∀ p, p ∈ L ∨ p ∈ done → p ∈ done') → K (g', bsm l S') = some r) → runX (m_judge_try_l0_b9 l (firsts l)) K L (g, bsm l S) = some r
  | [], S, g, done, _, h, hK => hK S g done h fun p hp => hp.elim (fun q => nomatch q) id
  | p :: L, S, g, done, hL, h, hK => by
    obtain ⟨g', S', h1, h2⟩ := e_round hf h (hL p List.mem_cons_self)
    unfold runX
    rw [h1]
    simp only [Option.bind_some]
    refine e_rounds hf (fun q hq => hL q (List.mem_cons_of_mem _ hq)) h2 fun S2 g2 d2 h3 h4 => hK S2 g2 d2 h3 fun q hq => h4 q ?_
    rcases hq with hq | hq
    · rcases List.mem_cons.1 hq with e | e
      · exact .inr (by rw [e]; exact List.mem_cons_self)
      · exact .inl e
    · exact .inr (List.mem_cons_of_mem _ hq)
theorem e_tryloop {l : Acts} (hf : fine l) : ∀ (m n : Nat) (S : Dot → DS) (g : Bool), Invt l S → (g = false → clo l S) → l.length * (dts l).length - siz l S ≤ m → m + 1 < n → loopN (m_judge_try_l0_b8 l (firsts l)) n (g, bsm l S) = some (trl l (bhS l))
  | m, 0, _, _, _, _, _, hn => absurd hn (by omega)
  | m, n + 1, S, false, hI, hc, _, _ => by
    rw [loopN_s]
    unfold m_judge_try_l0_b8
    simp only [cond_false]
    rw [clo_eq hI (hc rfl)]; rfl
  | m, n + 1, S, true, hI, hc, hm, hn => by
    rw [loopN_s]
    have ih := fun m' (hm' : m' < m) => e_tryloop hf m' n
    generalize hG : loopN (m_judge_try_l0_b8 l (firsts l)) n = G
    unfold m_judge_try_l0_b8
    simp only [cond_true]
    refine anyX_of fun L hL => ?_
    refine e_rounds hf (S0 := S) (done := []) (fun p hp => hL.mem_iff.1 hp) ⟨hI, fun _ => Nat.le_refl _, (fun e => nomatch e), fun _ => ⟨rfl, (fun p hp => nomatch hp)⟩⟩ fun S' g' d' h1 h2 => ?_
    show G (g', bsm l S') = _
    have hsz := siz_le l h1.inv
    cases g' with
    | true =>
      have h3 := h1.t rfl
      cases m with
      | zero => omega
      | succ m =>
        rw [← hG]
        exact e_tryloop hf m n S' true h1.inv (fun e => nomatch e) (by omega) (by omega)
    | false =>
      obtain ⟨h3, h4⟩ := h1.f rfl
      have hcl : clo l S' := by
        rw [h3]
        intro d i hd x hx
        exact h4 (d, (i : Int)) (h2 _ (.inl (hL.mem_iff.2 (mem_firsts.2 ⟨i, hd, rfl⟩)))) i hd x hx
      cases n with
      | zero => omega
      | succ n =>
        rw [← hG, loopN_s]
        unfold m_judge_try_l0_b8
        simp only [cond_false]
        rw [clo_eq h1.inv hcl]; rfl
/-- the trial that the program makes -/
theorem e_try {l : Acts} (hf : fine l) (hb : l.length * (dts l).length ≤ 9223372036854775808) : m_judge_try_l0 l = some (trl l (bhS l)) := by
  unfold m_judge_try_l0
  rw [show (([] : List (Dot × DS)), ([] : List (Dot × Int))) = (bs0 [], []) from rfl]
  rw [e_trybeg (l := l) (i := 0) (m := [])]
  have hI : Invt l (fun _ => []) := ⟨fun _ => cs_nil, fun d _ x hx => by simp [kys] at hx⟩
  exact e_tryloop hf (l.length * (dts l).length) FU (fun _ => []) true hI (fun e => nomatch e) (by omega) (by unfold FU; omega)
end Fw
end Go.Proofs.Ytldpanjodokefaa
