/- A well history that is turned is well no more. No condition. -/
import Derived.Test.YtldpanjodokefaaP10
namespace Go.Proofs.Ytldpanjodokefaa
namespace Fw
set_option linter.unusedVariables false
set_option linter.unusedSimpArgs false
set_option linter.unusedSectionVars false
open Go.RowKit
/-- is a dot told by a reading that was done? -/
def told (l : Acts) (x : Dot) : Prop := ∃ j, j < l.length ∧ (gt l j).read = true ∧ (gt l j).oK = true ∧ x ∈ (gt l j).reads
/-- what a reading that is well says -/
theorem rd_well {l : Acts} (h : okj l) {i : Nat} (hi : i < l.length) (hv : rdC l i = 0) :
    (∀ d ∈ (gt l i).reads, kk l (gt l i).key d = true) ∧ (∀ x, x ∈ (gt l i).reads ↔ x ∈ hhC l i ∧ kk l (gt l i).key x = true ∧ ¬ ∃ e ∈ hhC l i, kk l (gt l i).key e = true ∧ Bh l e x) := by
  unfold rdC at hv
  cases c2 : (gt l i).reads.any (fun d => (fst l d).isNone) with
  | true => rw [c2] at hv; cases hv
  | false =>
    rw [c2] at hv
    simp only [cond_false] at hv
    cases c3 : (gt l i).reads.any (fun d => !(kk l (gt l i).key d)) with
    | true => rw [c3] at hv; cases hv
    | false =>
      rw [c3] at hv
      simp only [cond_false] at hv
      cases c4 : (firsts l).any (fun p => cov (gt l i).seen p.1 && !((bhC l p.1).all (cov (gt l i).seen))) with
      | true => rw [c4] at hv; cases hv
      | false =>
        rw [c4] at hv
        simp only [cond_false] at hv
        cases c5 : (swC l i).all (cov (gt l i).seen) with
        | false => rw [c5] at hv; cases hv
        | true =>
          rw [c5] at hv
          simp only [Bool.not_true, cond_false] at hv
          cases c6 : sameS (gt l i).reads (grC l (hhC l i) (gt l i).key) with
          | false => rw [c6] at hv; cases hv
          | true =>
            refine ⟨fun d hd => ?_, fun x => ?_⟩
            · rw [Bool.eq_false_iff] at c3
              cases hk : kk l (gt l i).key d with
              | true => rfl
              | false => exact absurd (List.any_eq_true.2 ⟨d, hd, by rw [hk]; rfl⟩) c3
            · rw [(sameS_iff.1 c6) x, mem_grC h.ok]
theorem kk_fst {l : Acts} {key : ByteArray} {d : Dot} (h : kk l key d = true) : ∃ k, fst l d = some k := by
  unfold kk at h
  cases hf : fst l d with
  | some k => exact ⟨k, rfl⟩
  | none => rw [hf] at h; cases h
/-- nothing that was told is behind itself -/
theorem no_self {l : Acts} (h : okj l) (hw : ∀ i, i < l.length → vdC l i = 0) {x : Dot} (ht : told l x) : ¬ Bh l x x := by
  obtain ⟨j, hj, hr, ho, hx⟩ := ht
  have hv := hw j hj
  unfold vdC at hv
  rw [hr, ho] at hv
  simp only [Bool.not_true, cond_false, cond_true] at hv
  obtain ⟨h1, h2⟩ := rd_well h hj hv
  have h3 := (h2 x).1 hx
  exact fun hb => h3.2.2 ⟨x, h3.1, h3.2.1, hb⟩
/-- what is behind a dot was written ahead of it, or something told lies between -/
theorem bh_path {l : Acts} {d x : Dot} (h : Bh l d x) : (∃ i j, fst l d = some i ∧ fst l x = some j ∧ j < i) ∨ ∃ z, told l z ∧ Bh l d z ∧ (z = x ∨ Bh l z x) := by
  induction h with
  | @one d x i h1 h2 =>
    obtain ⟨j, g1, g2, _, g4, g5⟩ := mem_stp.1 h2
    rcases mem_tells.1 g5 with ⟨q1, q2⟩ | ⟨q1, q2, q3⟩
    · exact .inr ⟨x, ⟨j, g2, q1, g4, q2⟩, .one h1 h2, .inl rfl⟩
    · obtain ⟨k, hk, hkj⟩ := fst_of g2 (show isw (gt l j) = true by simp [isw, q1, q2]) q3.symm
      exact .inl ⟨i, k, h1, hk, by omega⟩
  | @two d e x i h1 h2 h3 ih =>
    obtain ⟨j, g1, g2, _, g4, g5⟩ := mem_stp.1 h2
    rcases mem_tells.1 g5 with ⟨q1, q2⟩ | ⟨q1, q2, q3⟩
    · exact .inr ⟨e, ⟨j, g2, q1, g4, q2⟩, .one h1 h2, .inr h3⟩
    · obtain ⟨k, hk, hkj⟩ := fst_of g2 (show isw (gt l j) = true by simp [isw, q1, q2]) q3.symm
      rcases ih with ⟨a, b, r1, r2, r3⟩ | ⟨z, r1, r2, r3⟩
      · rw [hk] at r1; injection r1 with r1
        exact .inl ⟨i, b, h1, r2, by omega⟩
      · exact .inr ⟨z, r1, .two h1 h2 r2, r3⟩
theorem no_cycle {l : Acts} (h : okj l) (hw : ∀ i, i < l.length → vdC l i = 0) {x : Dot} : ¬ Bh l x x := by
  intro hb
  rcases bh_path hb with ⟨i, j, h1, h2, h3⟩ | ⟨z, h1, h2, h3⟩
  · rw [h1] at h2; injection h2 with h2; omega
  · rcases h3 with e | e
    · subst e; exact no_self h hw h1 hb
    · exact no_self h hw h1 (e.trans h2)
/-! ### one act's readings turned -/
def turn (l : Acts) (i : Nat) (rs : List Dot) : Acts := List.set l i { gt l i with reads := rs }
section
variable {l : Acts} {i : Nat} {rs : List Dot}
theorem turn_len : (turn l i rs).length = l.length := by unfold turn; rw [List.length_set]
theorem turn_at (hi : i < l.length) : gt (turn l i rs) i = { gt l i with reads := rs } := by
  unfold turn
  rw [gt_eq (by rw [List.length_set]; exact hi), List.getElem_set_self]
theorem turn_ne {j : Nat} (hj : j ≠ i) : gt (turn l i rs) j = gt l j := by
  unfold turn
  by_cases h : j < l.length
  · rw [gt_eq (by rw [List.length_set]; exact h), List.getElem_set_ne (fun e => hj e.symm), gt_eq h]
  · have g : ∀ m : Acts, m.length ≤ j → gt m j = default := by
      intro m hm
      unfold gt
      simp only [List.getD, List.getElem?_eq_none hm, Option.getD_none]
    rw [g _ (by rw [List.length_set]; omega), g l (by omega)]
theorem turn_parts (hi : i < l.length) (j : Nat) : (gt (turn l i rs) j).read = (gt l j).read ∧ (gt (turn l i rs) j).sess = (gt l j).sess ∧ (gt (turn l i rs) j).key = (gt l j).key ∧ (gt (turn l i rs) j).dot = (gt l j).dot ∧ (gt (turn l i rs) j).oK = (gt l j).oK ∧ (gt (turn l i rs) j).seen = (gt l j).seen := by
  by_cases hj : j = i
  · subst hj; rw [turn_at hi]; exact ⟨rfl, rfl, rfl, rfl, rfl, rfl⟩
  · rw [turn_ne hj]; exact ⟨rfl, rfl, rfl, rfl, rfl, rfl⟩
theorem turn_fst (hi : i < l.length) (d : Dot) : fst (turn l i rs) d = fst l d := by
  unfold fst
  rw [turn_len]
  congr 1
  funext j
  obtain ⟨h1, _, _, h4, _⟩ := turn_parts (rs := rs) hi j
  unfold isw
  rw [h1, h4]
theorem turn_kk (hi : i < l.length) (key : ByteArray) (d : Dot) : kk (turn l i rs) key d = kk l key d := by
  unfold kk
  rw [turn_fst hi]
  cases fst l d with
  | none => rfl
  | some k => simp only; rw [(turn_parts (rs := rs) hi k).2.2.1]
/-- more is told: more is behind -/
theorem turn_stp_up (hi : i < l.length) (hs : ∀ x ∈ (gt l i).reads, x ∈ rs) {k : Nat} {x : Dot} (hx : x ∈ stp l k) : x ∈ stp (turn l i rs) k := by
  obtain ⟨j, h1, h2, h3, h4, h5⟩ := mem_stp.1 hx
  obtain ⟨p1, p2, p3, p4, p5, p6⟩ := turn_parts (rs := rs) hi j
  obtain ⟨_, q2, _⟩ := turn_parts (rs := rs) hi k
  refine mem_stp.2 ⟨j, h1, by rw [turn_len]; exact h2, by rw [p2, q2]; exact h3, by rw [p5]; exact h4, ?_⟩
  rw [mem_tells] at h5 ⊢
  rw [p1, p4]
  rcases h5 with ⟨a, b⟩ | b
  · refine .inl ⟨a, ?_⟩
    by_cases hj : j = i
    · subst hj; rw [turn_at hi]; exact hs x b
    · rw [turn_ne hj]; exact b
  · exact .inr b
theorem turn_stp_dn (hi : i < l.length) (hs : ∀ x ∈ rs, x ∈ (gt l i).reads) {k : Nat} {x : Dot} (hx : x ∈ stp (turn l i rs) k) : x ∈ stp l k := by
  obtain ⟨j, h1, h2, h3, h4, h5⟩ := mem_stp.1 hx
  obtain ⟨p1, p2, p3, p4, p5, p6⟩ := turn_parts (rs := rs) hi j
  obtain ⟨_, q2, _⟩ := turn_parts (rs := rs) hi k
  rw [turn_len] at h2
  rw [p2, q2] at h3
  rw [p5] at h4
  refine mem_stp.2 ⟨j, h1, h2, h3, h4, ?_⟩
  rw [mem_tells] at h5 ⊢
  rw [p1, p4] at h5
  rcases h5 with ⟨a, b⟩ | b
  · refine .inl ⟨a, ?_⟩
    by_cases hj : j = i
    · subst hj; rw [turn_at hi] at b; exact hs x b
    · rw [turn_ne hj] at b; exact b
  · exact .inr b
theorem turn_up (hi : i < l.length) (hs : ∀ x ∈ (gt l i).reads, x ∈ rs) {d x : Dot} (h : Bh l d x) : Bh (turn l i rs) d x := by
  induction h with
  | one h1 h2 => exact .one (by rw [turn_fst hi]; exact h1) (turn_stp_up hi hs h2)
  | two h1 h2 _ ih => exact .two (by rw [turn_fst hi]; exact h1) (turn_stp_up hi hs h2) ih
theorem turn_dn (hi : i < l.length) (hs : ∀ x ∈ rs, x ∈ (gt l i).reads) {d x : Dot} (h : Bh (turn l i rs) d x) : Bh l d x := by
  induction h with
  | one h1 h2 => rw [turn_fst hi] at h1; exact .one h1 (turn_stp_dn hi hs h2)
  | two h1 h2 _ ih => rw [turn_fst hi] at h1; exact .two h1 (turn_stp_dn hi hs h2) ih
/-- ahead of the act that is turned nothing is turned -/
theorem turn_stp_eq (hi : i < l.length) {k : Nat} (hk : k ≤ i) {x : Dot} : x ∈ stp (turn l i rs) k ↔ x ∈ stp l k := by
  rw [mem_stp, mem_stp]
  have : ∀ j, j < k → gt (turn l i rs) j = gt l j := fun j hj => turn_ne (by omega)
  have hk2 : (gt (turn l i rs) k).sess = (gt l k).sess := (turn_parts (rs := rs) hi k).2.1
  constructor
  · rintro ⟨j, h1, h2, h3, h4, h5⟩
    rw [this j h1] at h3 h4 h5
    rw [turn_len] at h2
    exact ⟨j, h1, h2, by rw [h3, hk2], h4, h5⟩
  · rintro ⟨j, h1, h2, h3, h4, h5⟩
    exact ⟨j, h1, by rw [turn_len]; exact h2, by rw [this j h1, h3, hk2], by rw [this j h1]; exact h4, by rw [this j h1]; exact h5⟩
end
/-- what was seen ahead of the act is seen there still, though less is told -/
theorem saw_stays {l : Acts} (h : okj l) (hw : ∀ i, i < l.length → vdC l i = 0) {i : Nat} (hi : i < l.length) {rs : List Dot} {x : Dot} (hx : Rch l (stS l i) x) : Rch (turn l i rs) (stS (turn l i rs) i) x := by
  have hst : ∀ y, y ∈ kys (stS (turn l i rs) i) ↔ y ∈ kys (stS l i) := fun y => by rw [mem_stS, mem_stS, turn_stp_eq hi (Nat.le_refl _)]
  rcases hx with hx | ⟨e, he, hb⟩
  · exact .inl ((hst x).2 hx)
  · refine .inr ⟨e, (hst e).2 he, ?_⟩
    have hes := mem_stS.1 he
    -- no step of the path passes the act
    have key : ∀ d x, Bh l d x → (d = e ∨ Bh l e d) → Bh (turn l i rs) d x := by
      intro d x hb
      have hno : ∀ {d : Dot} {k : Nat}, (d = e ∨ Bh l e d) → fst l d = some k → ∀ y ∈ stp l k, y ∈ stp (turn l i rs) k := by
        intro d k hd hk y hy
        by_cases hki : k ≤ i
        · exact (turn_stp_eq hi hki).2 hy
        · by_cases hss : (gt l k).sess = (gt l i).sess
          · exfalso
            have hek : e ∈ stp l k := by
              obtain ⟨j, g1, g2, g3, g4, g5⟩ := mem_stp.1 hes
              exact mem_stp.2 ⟨j, by omega, g2, by rw [g3, hss], g4, g5⟩
            have hde : Bh l d e := .one hk hek
            rcases hd with q | q
            · subst q; exact no_cycle h hw hde
            · exact no_cycle h hw (q.trans hde)
          · obtain ⟨j, g1, g2, g3, g4, g5⟩ := mem_stp.1 hy
            have hji : j ≠ i := fun q => hss (by rw [← g3, q])
            exact mem_stp.2 ⟨j, g1, by rw [turn_len]; exact g2, by rw [turn_ne hji, g3, (turn_parts (rs := rs) hi k).2.1], by rw [turn_ne hji]; exact g4, by rw [turn_ne hji]; exact g5⟩
      induction hb with
      | @one d x k h1 h2 => exact fun hd => .one (by rw [turn_fst hi]; exact h1) (hno hd h1 x h2)
      | @two d e' x k h1 h2 h3 ih =>
        intro hd
        refine .two (by rw [turn_fst hi]; exact h1) (hno hd h1 e' h2) (ih (.inr ?_))
        rcases hd with q | q
        · subst q; exact .one h1 h2
        · exact q.trans (.one h1 h2)
    exact key e x hb (.inl rfl)
/-- a dot less -/
theorem less_bad {l : Acts} (h : okj l) (hw : ∀ i, i < l.length → vdC l i = 0) {i : Nat} (hi : i < l.length) (hr : (gt l i).read = true) (ho : (gt l i).oK = true) {rs : List Dot} {x : Dot} (hx : x ∈ (gt l i).reads) (hs : ∀ y, y ∈ rs ↔ y ∈ (gt l i).reads ∧ y ≠ x) (h2 : okj (turn l i rs))
    (hc : x ∈ swC l i ∨ cov (gt l i).seen x = true) : vdC (turn l i rs) i ≠ 0 := by
  have hv := hw i hi
  unfold vdC at hv
  rw [hr, ho] at hv
  simp only [Bool.not_true, cond_false, cond_true] at hv
  obtain ⟨h3, h4⟩ := rd_well h hi hv
  intro hv2
  unfold vdC at hv2
  obtain ⟨p1, p2, p3, p4, p5, p6⟩ := turn_parts (rs := rs) hi i
  rw [p1, p5, hr, ho] at hv2
  simp only [Bool.not_true, cond_false, cond_true] at hv2
  obtain ⟨h5, h6⟩ := rd_well h2 (by rw [turn_len]; exact hi) hv2
  have hxr := (h4 x).1 hx
  have hrs : (gt (turn l i rs) i).reads = rs := by rw [turn_at hi]
  have hsub : ∀ y ∈ rs, y ∈ (gt l i).reads := fun y hy => ((hs y).1 hy).1
  have hH : ∀ y, y ∈ hhC (turn l i rs) i → y ∈ hhC l i := by
    intro y hy
    rw [mem_hhC h2.ok (by rw [turn_len]; exact hi)] at hy
    rw [mem_hhC h.ok hi]
    rw [p6, hrs] at hy
    rcases hy with q | ⟨e, q1, q2, q3⟩ | ⟨e, q1, q2⟩
    · left
      rcases q with q | ⟨e, q1, q2⟩
      · exact .inl (mem_stS.2 ((turn_stp_eq hi (Nat.le_refl _)).1 (mem_stS.1 q)))
      · exact .inr ⟨e, mem_stS.2 ((turn_stp_eq hi (Nat.le_refl _)).1 (mem_stS.1 q1)), turn_dn hi hsub q2⟩
    · right; left
      exact ⟨e, by rw [turn_fst hi] at q1; exact q1, q2, q3.imp id (turn_dn hi hsub)⟩
    · right; right
      exact ⟨e, hsub e q1, q2.imp id (turn_dn hi hsub)⟩
  have hxH : x ∈ hhC (turn l i rs) i := by
    rw [mem_hhC h2.ok (by rw [turn_len]; exact hi), p6]
    rcases hc with hc | hc
    · exact .inl (saw_stays h hw hi ((mem_swC h.ok hi).1 hc))
    · obtain ⟨k, hk⟩ := kk_fst hxr.2.1
      exact .inr (.inl ⟨x, by rw [turn_fst hi, hk]; rfl, hc, .inl rfl⟩)
  have hxg : x ∈ (gt (turn l i rs) i).reads := (h6 x).2 ⟨hxH, by rw [p3, turn_kk hi]; exact hxr.2.1, fun ⟨e, g1, g2, g3⟩ => hxr.2.2 ⟨e, hH e g1, by rw [p3, turn_kk hi] at g2; exact g2, turn_dn hi hsub g3⟩⟩
  rw [hrs, hs] at hxg
  exact hxg.2 rfl
/-- a dot more that is behind another one -/
theorem more_bad {l : Acts} (h : okj l) (hw : ∀ i, i < l.length → vdC l i = 0) {i : Nat} (hi : i < l.length) (hr : (gt l i).read = true) (ho : (gt l i).oK = true) {rs : List Dot} {x y : Dot} (hx : x ∈ (gt l i).reads) (hs : ∀ z, z ∈ rs ↔ z ∈ (gt l i).reads ∨ z = y) (h2 : okj (turn l i rs))
    (hy : Bh l x y) : vdC (turn l i rs) i ≠ 0 := by
  have hv := hw i hi
  unfold vdC at hv
  rw [hr, ho] at hv
  simp only [Bool.not_true, cond_false, cond_true] at hv
  obtain ⟨h3, h4⟩ := rd_well h hi hv
  intro hv2
  unfold vdC at hv2
  obtain ⟨p1, p2, p3, p4, p5, p6⟩ := turn_parts (rs := rs) hi i
  rw [p1, p5, hr, ho] at hv2
  simp only [Bool.not_true, cond_false, cond_true] at hv2
  obtain ⟨h5, h6⟩ := rd_well h2 (by rw [turn_len]; exact hi) hv2
  have hrs : (gt (turn l i rs) i).reads = rs := by rw [turn_at hi]
  have hyr : y ∈ (gt (turn l i rs) i).reads := by rw [hrs, hs]; exact .inr rfl
  have hxr : x ∈ (gt (turn l i rs) i).reads := by rw [hrs, hs]; exact .inl hx
  have hxH := ((h6 x).1 hxr)
  exact ((h6 y).1 hyr).2.2 ⟨x, hxH.1, hxH.2.1, turn_up hi (fun z hz => (hs z).2 (.inl hz)) hy⟩
/-! ### the greatest by the document -/
theorem e_rg4 {l : Acts} (h : okl l) {key : ByteArray} {K : List Dot → Option (List Dot)} : ∀ {L : List Dot} {j : Nat} {o : List Dot}, o.length + L.length ≤ lim → forI (m_firthref23_Greatest_b4 (racts l) key) K j L o = K (o ++ L.filter (kk l key))
  | [], _, o, _ => by rw [forI_nil]; simp
  | d :: L, j, o, hn => by
    rw [List.length_cons] at hn
    rw [forI_cons]
    have ih := fun o' (ho : o'.length + L.length ≤ lim) => e_rg4 h (key := key) (K := K) (L := L) (j := j + 1) (o := o') ho
    generalize hG : forI (m_firthref23_Greatest_b4 (racts l) key) K (j + 1) L = G at ih
    unfold m_firthref23_Greatest_b4 m_firthref23_Greatest_j5
    rw [e_First]
    simp only [Option.bind_some]
    cases hf : fst l d with
    | none =>
      have e1 : decide (0 ≤ fstI l d) = false := by simp [fstI, hf]
      have e2 : kk l key d = false := by unfold kk; rw [hf]
      simp only [e1, imp, cond_false, chk, cond_true, Bool.false_and, List.filter_cons, e2, Bool.false_eq_true, if_false]
      exact ih o (by omega)
    | some k =>
      have hk := (fst_some hf).1
      have e0 : fstI l d = (k : Int) := by simp [fstI, hf]
      have e1 : decide (0 ≤ (k : Int)) = true := decide_eq_true (Int.natCast_nonneg _)
      have e2 : inb (k : Int) (racts l).length = true := by unfold racts; rw [List.length_map]; exact inb_nat hk
      have e3 : kk l key d = ((gt l k).key == key) := by unfold kk; rw [hf]
      simp only [e0, e1, e2, imp, cond_true, chk, Bool.true_and, Int.toNat_natCast]
      rw [gt_racts hk, show (toR (gt l k)).key = (gt l k).key from rfl, List.filter_cons, e3]
      cases hc : (gt l k).key == key with
      | true =>
        have e4 : decide (o.length + 1 ≤ lim) = true := decide_eq_true (by omega)
        simp only [cond_true, e4, if_true]
        rw [ih _ (by rw [List.length_append]; simp; omega)]
        simp
      | false =>
        simp only [cond_false, Bool.false_eq_true, if_false]
        exact ih o (by omega)
theorem e_rg6 {l : Acts} (h : okl l) {K : List Dot → Option (List Dot)} : ∀ {L : List Dot} {j : Nat} {s : DS}, CS s → (∀ x ∈ kys s, x ∈ dts l) → ∃ s', CS s' ∧ forI (m_firthref23_Greatest_b6 (racts l)) K j L (kys s) = K (kys s')
  | [], _, s, hs, _ => ⟨s, hs, rfl⟩
  | d :: L, j, s, hs, hd => by
    rw [forI_cons]
    have ih := fun s' (h1 : CS s') h2 => e_rg6 h (K := K) (L := L) (j := j + 1) (s := s') h1 h2
    generalize hG : forI (m_firthref23_Greatest_b6 (racts l)) K (j + 1) L = G at ih
    unfold m_firthref23_Greatest_b6
    rw [e_rBehind h]
    simp only [Option.bind_some]
    have h1 : s.length ≤ (dts l).length := by
      have := nodup_len (CL.nodup hs) hd
      simpa [kys] using this
    have h2 := bhS_len l d
    have hb := h.b
    rw [e_all hs (by simp only [kys, List.length_map]; omega)]
    simp only [Option.bind_some]
    exact ih _ (unl_cs hs) fun x hx => by
      rcases mem_unl.1 hx with q | q
      · exact hd x q
      · exact (mem_bhS.1 q).dts
theorem e_rg10 {p : List Dot} {L0 : List Dot} : ∀ {L : List Dot} {j : Nat} {o : List Dot}, o.length + L.length ≤ lim → (∀ x ∈ o, x ∈ L0) → (∀ x ∈ L, x ∈ L0) → ∃ g, forI (m_firthref23_Greatest_b10 p) (fun out_74 => some out_74) j L o = some g ∧ ∀ x ∈ g, x ∈ L0
  | [], _, o, _, ho, _ => ⟨o, rfl, ho⟩
  | d :: L, j, o, hn, ho, hL => by
    rw [List.length_cons] at hn
    rw [forI_cons]
    have ih := fun o' h1 h2 => e_rg10 (p := p) (L0 := L0) (L := L) (j := j + 1) (o := o') h1 h2 (fun x hx => hL x (List.mem_cons_of_mem _ hx))
    generalize hG : forI (m_firthref23_Greatest_b10 p) (fun out_74 => some out_74) (j + 1) L = G at ih
    unfold m_firthref23_Greatest_b10 m_firthref23_Greatest_j11
    rw [e_has]
    simp only [Option.bind_some]
    cases decide (d ∈ p) with
    | true => simp only [Bool.not_true, cond_false]; exact ih o (by omega) ho
    | false =>
      have e4 : decide (o.length + 1 ≤ lim) = true := decide_eq_true (by omega)
      simp only [Bool.not_false, cond_true, e4, chk]
      refine ih _ (by rw [List.length_append]; simp; omega) fun x hx => ?_
      rcases List.mem_append.1 hx with q | q
      · exact ho x q
      · rw [List.mem_singleton.1 q]; exact hL d List.mem_cons_self
theorem e_rGreatest {l : Acts} (h : okl l) {H : List Dot} {key : ByteArray} (hn : H.length ≤ lim) : ∃ g, m_firthref23_Greatest (racts l) H key = some g ∧ ∀ x ∈ g, x ∈ H := by
  unfold m_firthref23_Greatest
  rw [e_rg4 h (by simpa using hn)]
  simp only [List.nil_append]
  obtain ⟨s', _, h2⟩ := e_rg6 h (K := fun past_42 => forI (m_firthref23_Greatest_b10 past_42) (fun out_74 => some out_74) 0 (H.filter (kk l key)) []) (L := H.filter (kk l key)) (j := 0) (s := []) cs_nil (by simp [kys])
  rw [show kys [] = ([] : List Dot) from rfl] at h2
  rw [h2]
  have hfl : (H.filter (kk l key)).length ≤ H.length := List.length_filter_le _ _
  exact e_rg10 (L0 := H) (by simp [kys]; omega) (by simp [kys]) (fun x hx => (List.mem_filter.1 hx).1)
theorem dts_turn {l : Acts} {i : Nat} {rs : List Dot} (hi : i < l.length) (hr : (gt l i).read = true) (hrs : rs.length ≤ (gt l i).reads.length + 1) : (dts (turn l i rs)).length ≤ (dts l).length + 1 := by
  have e1 : turn l i rs = l.take i ++ ({ gt l i with reads := rs } :: l.drop (i + 1)) := by
    unfold turn
    rw [List.set_eq_take_append_cons_drop, if_pos hi]
  have e2 : dts l = dts (l.take i) ++ (tells (gt l i) ++ dts (l.drop (i + 1))) := by
    have e3 : l = l.take i ++ (gt l i :: l.drop (i + 1)) := by
      conv => lhs; rw [← List.take_append_drop i l, drop_gt hi]
    conv => lhs; rw [e3]
    unfold dts
    rw [List.flatMap_append, List.flatMap_cons]
  rw [e1, e2]
  have h3 : (tells { gt l i with reads := rs }).length ≤ (tells (gt l i)).length + 1 := by
    unfold tells
    simp only [hr, cond_true]
    exact hrs
  unfold dts at *
  rw [List.flatMap_append, List.flatMap_cons, List.length_append, List.length_append, List.length_append, List.length_append]
  omega
theorem turn_ok {l : Acts} (hn : l.length ≤ 60) (hb : bkL Djudge_Act.bk l ≤ 1048576) {i : Nat} (hi : i < l.length) (hr : (gt l i).read = true) {rs : List Dot} (hrs : rs.length ≤ (gt l i).reads.length + 1) : okj (turn l i rs) := by
  have hd := dts_turn (rs := rs) hi hr hrs
  have hd2 := (bk_dts (l := l)).2
  have hall : ∀ a ∈ turn l i rs, a.reads.length ≤ lim ∧ a.seen.length ≤ lim := by
    intro a ha
    obtain ⟨j, hj, rfl⟩ := List.getElem_of_mem ha
    rw [← gt_eq hj]
    rw [turn_len] at hj
    have hm : gt l j ∈ l := by rw [gt_eq hj]; exact List.getElem_mem hj
    have := bk_mem hm
    rw [lim_eq]
    by_cases hji : j = i
    · subst hji; rw [turn_at hi]; simp only; omega
    · rw [turn_ne hji]; omega
  exact ⟨⟨⟨by rw [turn_len, lim_eq]; omega, fun a ha => (hall a ha).1⟩, by rw [turn_len]; omega, by omega⟩, fun a ha => (hall a ha).2⟩
theorem finds_end {l : Acts} {i : Nat} {rs : List Dot} (h2 : okj (turn l i rs)) (hi : i < l.length) (hv : vdC (turn l i rs) i ≠ 0) : m_firthlaw23_JudgeFinds_j1 l (i : Int) rs = some true := by
  unfold m_firthlaw23_JudgeFinds_j1
  have : m_judge_Judge_l0 (turn l i rs) = some (jdC (turn l i rs)) := e_Judge h2
  unfold turn at this hv
  simp only [Int.toNat_natCast]
  show (Option.bind (m_judge_Judge_l0 (List.set l i { gt l i with reads := rs })) _) = _
  rw [this]
  simp only [Option.bind_some]
  have hz : (jdC (List.set l i { gt l i with reads := rs })).2 ≠ 0 := fun e => hv (jdC_zero.1 e i (by rw [List.length_set]; exact hi))
  simp [hz]
theorem p_firthlaw23_JudgeFinds {Γ : Gh} {Alist : Option Addr} {clist : Nat} {list : List Djudge_Act} (hlist : Sl djudge_ActT Γ Alist list) (hlistc : list.length ≤ clist) (which : Int) (hwhich : I64 which) (less : Bool) (hb : bkL Djudge_Act.bk list ≤ 1048576) : m_firthlaw23_JudgeFinds list which less = some true := by
  unfold m_firthlaw23_JudgeFinds
  rw [e_awake]
  simp only [Option.bind_some, Bool.not_true, Bool.false_or]
  by_cases hn : 60 < list.length
  · have : decide (60 < ((list.length : Nat) : Int)) = true := decide_eq_true (by omega)
    rw [this]; rfl
  have : decide (60 < ((list.length : Nat) : Int)) = false := decide_eq_false (by omega)
  rw [this]
  have h : okj list := okj_of (by omega) (by omega)
  simp only [cond_false]
  rw [e_Judge h]
  simp only [Option.bind_some]
  by_cases hwell : (jdC list).2 = 0
  rotate_left 1
  · have h1 : ((jdC list).2 != 0) = true := by simp [hwell]
    have h2 : ((jdC list).1 == -1) = false := by simp only [beq_eq_false_iff_ne]; exact fun e => hwell (jdC_one.1 e)
    have h3 : ((jdC list).2 == 0) = false := by simp [hwell]
    simp only [h1, h2, h3, Bool.true_or, Bool.not_true, imp, cond_false, chk, cond_true]; rfl
  have hone : (jdC list).1 = -1 := jdC_one.2 hwell
  have hw := jdC_zero.1 hwell
  have h1 : ((jdC list).2 != 0) = false := by simp [hwell]
  have h2 : ((jdC list).1 != -1) = false := by simp [hone]
  have h3 : (((jdC list).2 == 0) == ((jdC list).1 == -1)) = true := by simp [hwell, hone]
  simp only [h1, h2, h3, Bool.false_or]
  cases hc : (decide (which < 0)) || (decide (((list.length : Nat) : Int) ≤ which)) with
  | true => simp only [Bool.true_or, Bool.not_true, imp, cond_false, chk, cond_true]
  | false =>
    have g1 := of_decide_eq_false (or_l hc); have g2 := of_decide_eq_false (or_r hc)
    obtain ⟨i, rfl⟩ : ∃ i : Nat, which = (i : Int) := ⟨which.toNat, by omega⟩
    have hi : i < list.length := by omega
    have e1 : inb (i : Int) list.length = true := inb_nat hi
    simp only [Bool.false_or, Bool.not_false, imp, cond_true, e1, chk, Int.toNat_natCast]
    have e1' : ∀ b : Bool, (bif b then true else true) = true := by intro b; cases b <;> rfl
    simp only [e1', cond_true]
    cases hr : (gt list i).read with
    | false => simp
    | true =>
      cases ho : (gt list i).oK with
      | false => simp
      | true =>
        cases hl0 : (((gt list i).reads.length : Nat) : Int) == 0 with
        | true => simp
        | false =>
          simp only [Bool.not_true, Bool.false_or, cond_false]
          rw [e_acts h.ok.fine.1]
          have hrl : (gt list i).reads.length ≤ 1048576 := by
            have hm : gt list i ∈ list := by rw [gt_eq hi]; exact List.getElem_mem hi
            have := (bk_mem hm).1; omega
          rw [show ([] : List Dot) = kys [] from rfl, e_all cs_nil (by rw [lim_eq]; simp; omega)]
          simp only [Option.bind_some]
          have e2 : decide (0 + list.length ≤ lim) = true := decide_eq_true (by rw [lim_eq]; omega)
          simp only [e2, cond_true]
          have hTm : ∀ x, x ∈ kys (unl [] (gt list i).reads) ↔ x ∈ (gt list i).reads := fun x => by rw [mem_unl]; simp [kys]
          have hTc : CL (kys (unl [] (gt list i).reads)) := unl_cs cs_nil
          generalize hT : kys (unl [] (gt list i).reads) = T at hTm hTc
          have hTl : T.length ≤ (gt list i).reads.length := nodup_len (CL.nodup hTc) fun x hx => (hTm x).1 hx
          cases hTe : T with
          | nil =>
            exfalso
            have hl1 : (gt list i).reads.length ≠ 0 := by simpa using hl0
            cases hq : (gt list i).reads with
            | nil => rw [hq] at hl1; simp at hl1
            | cons x q => have := (hTm x).2 (by rw [hq]; simp); rw [hTe] at this; cases this
          | cons x T' =>
            rw [hTe] at hTm hTc hTl
            have hxr : x ∈ (gt list i).reads := (hTm x).1 List.mem_cons_self
            have e3 : decide (1 ≤ (x :: T').length) = true := decide_eq_true (by simp)
            have e4 : decide (0 < (x :: T').length) = true := decide_eq_true (by simp)
            have hg0 : gt (x :: T') 0 = x := rfl
            obtain ⟨hx1, hx2⟩ := List.pairwise_cons.1 hTc
            cases less with
            | true =>
              simp only [cond_true, e3, e4, hg0]
              rw [e_rSaw h.ok hi]
              simp only [Option.bind_some, e_has]
              have hsw : decide (x ∈ kys (swS list i)) = decide (x ∈ swC list i) := by unfold swC; rw [e_rSaw h.ok hi]; rfl
              rw [hsw]
              have hrs : ∀ y, y ∈ List.drop 1 (x :: T') ↔ y ∈ (gt list i).reads ∧ y ≠ x := by
                intro y
                show y ∈ T' ↔ _
                rw [← hTm, List.mem_cons]
                constructor
                · intro hy
                  exact ⟨.inr hy, fun e => by have := hx1 y hy; rw [e, kl_irr] at this; cases this⟩
                · rintro ⟨q | q, q2⟩
                  · exact absurd q q2
                  · exact q
              have h2' := turn_ok (by omega) hb hi hr (rs := List.drop 1 (x :: T')) (by simp only [List.length_cons, List.length_drop] at hTl ⊢; omega)
              cases hsx : decide (x ∈ swC list i) with
              | true =>
                simp only [Bool.not_true, gcall, cond_false, Option.bind_some, Bool.false_and]
                exact finds_end h2' hi (less_bad h hw hi hr ho hxr hrs h2' (.inl (of_decide_eq_true hsx)))
              | false =>
                simp only [Bool.not_false, gcall, cond_true, Bool.true_and]
                rw [e_covered (h.at_ i)]
                simp only [Option.bind_some]
                cases hcv : cov (gt list i).seen x with
                | false => rfl
                | true =>
                  simp only [Bool.not_true, cond_false]
                  exact finds_end h2' hi (less_bad h hw hi hr ho hxr hrs h2' (.inr hcv))
            | false =>
              simp only [cond_false, e4, cond_true, hg0]
              rw [e_rBehind h.ok]
              simp only [Option.bind_some]
              obtain ⟨g, hg1, hg2⟩ := e_rGreatest h.ok (H := kys (bhS list x)) (key := (gt list i).key) (by have := bhS_len list x; have := h.ok.b; simp [kys]; omega)
              rw [hg1]
              simp only [Option.bind_some]
              cases hge : g with
              | nil => rfl
              | cons y g' =>
                have e5 : ((((y :: g').length : Nat) : Int) == 0) = false := by simp; omega
                have e6 : decide (0 + (x :: T').length ≤ lim) = true := decide_eq_true (by rw [lim_eq]; omega)
                have e7 : decide (0 < (y :: g').length) = true := decide_eq_true (by simp)
                have e8 : decide ((x :: T').length + 1 ≤ lim) = true := decide_eq_true (by rw [lim_eq]; omega)
                simp only [e5, cond_false, e6, e7, e8, cond_true]
                have hy : Bh list x y := mem_bhS.1 (hg2 y (by rw [hge]; exact List.mem_cons_self))
                have h2' := turn_ok (by omega) hb hi hr (rs := (x :: T') ++ [y]) (by rw [List.length_append]; simp only [List.length_cons, List.length_nil] at hTl ⊢; omega)
                refine finds_end h2' hi (more_bad h hw hi hr ho hxr (fun z => ?_) h2' hy)
                rw [List.mem_append, hTm]
                show _ ∨ z ∈ [y] ↔ _
                rw [List.mem_singleton]
end Fw
end Go.Proofs.Ytldpanjodokefaa
