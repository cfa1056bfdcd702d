/- The document's answer: lists of dots, steps, closures. No condition. -/
import Derived.Test.YtldpanjodokefaaP4
namespace Go.Proofs.Ytldpanjodokefaa
namespace Fw
set_option linter.unusedVariables false
set_option linter.unusedSimpArgs false
set_option linter.unusedSectionVars false
open Go.RowKit
theorem e_Has {d : Dot} : ∀ {l : List Dot} {i : Nat}, forI (m_firthref23_Has_b1 d) (fun _ => some false) i l () = some (decide (d ∈ l))
  | [], _ => by simp [forI_nil]
  | x :: l, i => by
    rw [forI_cons]
    unfold m_firthref23_Has_b1
    by_cases h : x = d
    · subst h; simp
    · have : (x == d) = false := by simp [h]
      simp only [this, cond_false]
      have ih := e_Has (d := d) (l := l) (i := i + 1)
      unfold m_firthref23_Has_b1 at ih
      rw [ih]
      congr 1
      rw [Bool.eq_iff_iff, decide_eq_true_eq, decide_eq_true_eq, List.mem_cons]
      exact ⟨.inr, fun q => q.elim (fun e => absurd e.symm h) id⟩
theorem e_has {l : List Dot} {d : Dot} : m_firthref23_Has l d = some (decide (d ∈ l)) := e_Has
theorem e_less {a b : Dot} : m_firthref05_Less a b = some (kl a b) := by
  unfold m_firthref05_Less
  by_cases h : a.s = b.s
  · have : (a.s != b.s) = false := by simp [h]
    simp only [this, cond_false, kl, kl27, h]
    simp
  · have : (a.s != b.s) = true := by simp [h]
    simp only [this, cond_true, kl, kl27]
    simp [h]
def insL (d : Dot) : List Dot → List Dot
  | [] => [d]
  | p :: l => if kl d p then d :: p :: l else p :: insL d l
theorem insL_kys {d : Dot} : ∀ {s : DS}, insL d (kys s) = kys (sins kl d s)
  | [] => rfl
  | p :: s => by
    show (if kl d p.1 then d :: p.1 :: kys s else p.1 :: insL d (kys s)) = kys (if kl d p.1 then (d, ()) :: p :: s else p :: sins kl d s)
    split
    · rfl
    · rw [insL_kys]; rfl
theorem e_put_t {l : List Dot} {d : Dot} : ∀ {L : List Dot} {i : Nat} {o : List Dot}, L = l.drop i → i ≤ l.length → o.length + L.length ≤ lim →
    forI (m_firthref23_Put_b4 l d) (fun (out_5, laid_10) => (bif (!laid_10) then (chk (decide (out_5.length + 1 ≤ lim)) (some (out_5 ++ [d]))) else (some out_5))) i L (o, true) = some (o ++ L)
  | [], i, o, _, _, _ => by rw [forI_nil]; simp
  | x :: L, i, o, hL, hi, hn => by
    have hil : i < l.length := by
      have := congrArg List.length hL
      rw [List.length_drop, List.length_cons] at this; omega
    rw [drop_gt hil] at hL
    obtain ⟨hx, hL⟩ := List.cons.inj hL
    rw [List.length_cons] at hn
    rw [forI_cons]
    generalize hG : forI (m_firthref23_Put_b4 l d) _ (i + 1) L = G
    unfold m_firthref23_Put_b4
    simp only [Bool.not_true, gcall, cond_false, Option.bind_some, Bool.false_and]
    unfold m_firthref23_Put_j5
    have : decide (o.length + 1 ≤ lim) = true := decide_eq_true (by omega)
    simp only [this, chk, cond_true]
    rw [← hG, e_put_t hL hil (by rw [List.length_append]; simp; omega), ← hx]
    simp
theorem e_put_f {l : List Dot} {d : Dot} : ∀ {L : List Dot} {i : Nat} {o : List Dot}, L = l.drop i → i ≤ l.length → o.length + L.length + 1 ≤ lim →
    forI (m_firthref23_Put_b4 l d) (fun (out_5, laid_10) => (bif (!laid_10) then (chk (decide (out_5.length + 1 ≤ lim)) (some (out_5 ++ [d]))) else (some out_5))) i L (o, false) = some (o ++ insL d L)
  | [], i, o, _, _, hn => by
    rw [forI_nil]
    have : decide (o.length + 1 ≤ lim) = true := decide_eq_true (by simpa using hn)
    simp only [Bool.not_false, this, chk, cond_true, insL]
  | x :: L, i, o, hL, hi, hn => by
    have hil : i < l.length := by
      have := congrArg List.length hL
      rw [List.length_drop, List.length_cons] at this; omega
    rw [drop_gt hil] at hL
    obtain ⟨hx, hL⟩ := List.cons.inj hL
    rw [List.length_cons] at hn
    rw [forI_cons]
    generalize hG : forI (m_firthref23_Put_b4 l d) _ (i + 1) L = G
    unfold m_firthref23_Put_b4
    simp only [Bool.not_false, gcall, cond_true, e_less, Option.bind_some, Bool.true_and]
    unfold m_firthref23_Put_j5
    have e1 : decide (o.length + 1 ≤ lim) = true := decide_eq_true (by omega)
    cases hk : kl d x with
    | true =>
      have e2 : decide ((o ++ [d]).length + 1 ≤ lim) = true := decide_eq_true (by rw [List.length_append]; simp; omega)
      simp only [cond_true, e1, e2, chk]
      rw [← hG, e_put_t hL hil (by simp only [List.length_append, List.length_cons, List.length_nil]; omega), ← hx]
      simp [insL, hk]
    | false =>
      simp only [cond_false, e1, chk, cond_true]
      rw [← hG, e_put_f hL hil (by rw [List.length_append]; simp; omega), ← hx]
      simp [insL, hk]
theorem e_Put {s : DS} {d : Dot} (hs : CS s) (hn : s.length + 1 ≤ lim) : m_firthref23_Put (kys s) d = some (kys (sput kl d s)) := by
  unfold m_firthref23_Put
  rw [e_has]
  simp only [Option.bind_some]
  unfold sput
  rw [mget_kys']
  cases h : decide (d ∈ kys s) with
  | true => simp
  | false =>
    simp only [cond_false]
    rw [e_put_f (by rw [List.drop_zero]) (Nat.zero_le _) (by simpa [kys] using hn)]
    simp [insL_kys]
theorem sput_len {x : Dot} {s : DS} : (sput kl x s).length ≤ s.length + 1 := by
  unfold sput
  split
  · omega
  · have := (sins_perm kl x s).length_eq; simp at this; omega
theorem e_All : ∀ {more : List Dot} {s : DS} {i : Nat}, CS s → s.length + more.length + 1 ≤ lim → forI m_firthref23_All_b1 (fun l_3 => some l_3) i more (kys s) = some (kys (unl s more))
  | [], s, i, _, _ => rfl
  | x :: more, s, i, hs, hn => by
    rw [List.length_cons] at hn
    rw [forI_cons]
    generalize hG : forI m_firthref23_All_b1 _ (i + 1) more = G
    unfold m_firthref23_All_b1
    rw [e_Put hs (by omega)]
    simp only [Option.bind_some]
    have := sput_len (x := x) (s := s)
    rw [← hG, e_All (sput_cs hs) (by omega)]; rfl
theorem e_all {s : DS} {more : List Dot} (hs : CS s) (hn : s.length + more.length + 1 ≤ lim) : m_firthref23_All (kys s) more = some (kys (unl s more)) := e_All hs hn
/-! ### acts as the document has them -/
def toR (a : Djudge_Act) : Dfirthref23_Act := ⟨a.read, a.sess, a.key, a.dot, a.oK, a.reads, a.seen⟩
def racts (l : Acts) : List Dfirthref23_Act := l.map toR
theorem gt_racts {l : Acts} {i : Nat} (h : i < l.length) : gt (racts l) i = toR (gt l i) := by
  unfold racts; rw [gt_eq (by simpa using h), gt_eq h, List.getElem_map]
theorem e_acts0 : ∀ {l : Acts} {i : Nat} {o : List Dfirthref23_Act}, o.length + l.length ≤ lim → forI m_firthlaw23_acts_b1 (fun out_1 => some out_1) i l o = some (o ++ racts l)
  | [], _, o, _ => by rw [forI_nil]; simp [racts]
  | a :: l, i, o, hn => by
    rw [List.length_cons] at hn
    rw [forI_cons]
    generalize hG : forI m_firthlaw23_acts_b1 _ (i + 1) l = G
    unfold m_firthlaw23_acts_b1
    have : decide (o.length + 1 ≤ lim) = true := decide_eq_true (by omega)
    simp only [this, chk, cond_true]
    rw [← hG, e_acts0 (by rw [List.length_append]; simp; omega)]
    simp [racts, toR]
theorem e_acts {l : Acts} (h : l.length ≤ lim) : m_firthlaw23_acts l = some (racts l) := by
  unfold m_firthlaw23_acts; rw [e_acts0 (by simpa using h)]; simp
def fstI (l : Acts) (d : Dot) : Int := match fst l d with
  | some i => (i : Int)
  | none => -1
theorem e_First0 {l : Acts} {d : Dot} : ∀ {L : Acts} {i : Nat}, L = l.drop i → i ≤ l.length → (∀ j < i, ¬ (isw (gt l j) = true ∧ (gt l j).dot = d)) → forI (m_firthref23_First_b1 d) (fun _ => some (-1)) i (racts L) () = some (fstI l d)
  | [], i, hL, hi, hb => by
    have hil : l.length ≤ i := by
      have := congrArg List.length hL
      rw [List.length_drop, List.length_nil] at this; omega
    have : fst l d = none := by
      cases h : fst l d with
      | none => rfl
      | some k =>
        obtain ⟨h1, h2, h3, h4, _⟩ := fst_some h
        exact absurd ⟨by simp [isw, h2, h3], h4⟩ (hb k (by omega))
    simp [racts, forI_nil, fstI, this]
  | a :: L, i, hL, hi, hb => by
    have hil : i < l.length := by
      have := congrArg List.length hL
      rw [List.length_drop, List.length_cons] at this; omega
    rw [drop_gt hil] at hL
    obtain ⟨ha, hL⟩ := List.cons.inj hL
    rw [show racts (a :: L) = toR a :: racts L from rfl, forI_cons]
    generalize hG : forI (m_firthref23_First_b1 d) _ (i + 1) (racts L) = G
    unfold m_firthref23_First_b1
    have hc : ((!(toR a).read && ((toR a).dot == d)) && decide (0 < d.n)) = (isw a && decide (a.dot = d)) := by
      simp only [toR, isw]
      by_cases h : a.dot = d
      · rw [← h]; simp
      · simp [h]
    rw [hc]
    cases hq : isw a && decide (a.dot = d) with
    | true =>
      simp only [cond_true]
      have h1 := and_l hq; have h2 := of_decide_eq_true (and_r hq)
      rw [ha] at h1 h2
      unfold fstI
      rw [fst_eq hil h1 h2 fun j hj hw he => hb j hj ⟨hw, he⟩]
    | false =>
      simp only [cond_false]
      rw [← hG]
      refine e_First0 hL hil fun j hj => ?_
      rcases Nat.lt_or_ge j i with q | q
      · exact hb j q
      · have : j = i := by omega
        subst this
        rintro ⟨h1, h2⟩
        rw [← ha] at h1 h2
        rw [h1, h2] at hq; simp at hq
theorem e_First {l : Acts} {d : Dot} : m_firthref23_First (racts l) d = some (fstI l d) := e_First0 (by rw [List.drop_zero]) (Nat.zero_le _) (fun j hj => absurd hj (by omega))
/-- the steps as a set -/
def stS (l : Acts) (i : Nat) : DS := unl [] (stp l i)
theorem stS_cs (l : Acts) (i : Nat) : CS (stS l i) := unl_cs cs_nil
theorem mem_stS {l : Acts} {i : Nat} {x : Dot} : x ∈ kys (stS l i) ↔ x ∈ stp l i := by unfold stS; rw [mem_unl]; simp [kys]
theorem stS_len {l : Acts} {i : Nat} : (stS l i).length ≤ (dts l).length := by
  have := nodup_len (CL.nodup (stS_cs l i)) fun x hx => stp_dts (mem_stS.1 hx)
  simpa [kys] using this
theorem unl_app {s : DS} {a b : List Dot} : unl s (a ++ b) = unl (unl s a) b := by unfold unl; rw [List.foldl_append]
theorem tells_len {a : Djudge_Act} {l : Acts} (h : a ∈ l) : (tells a).length ≤ (dts l).length := by
  induction l with
  | nil => cases h
  | cons b l ih =>
    unfold dts at *
    rw [List.flatMap_cons, List.length_append]
    rcases List.mem_cons.1 h with e | e
    · subst e; omega
    · have := ih e; omega
theorem e_Steps {l : Acts} {i : Nat} (hi : i < l.length) (hb : 2 * (dts l).length + 2 ≤ lim) : m_firthref23_Steps (racts l) (i : Int) = some (kys (stS l i)) := by
  unfold m_firthref23_Steps
  rw [Int.toNat_natCast]
  have key : ∀ (n k : Nat) (s : DS), k + n = i → CS s → (∀ x ∈ kys s, x ∈ dts l) → forU (m_firthref23_Steps_b4 (racts l) (i : Int)) (fun out_3 => some out_3) n k (kys s) = some (kys (unl s (((l.take i).drop k).flatMap fun a => bif (a.sess == (gt l i).sess) && a.oK then tells a else []))) := by
    intro n
    induction n with
    | zero =>
      intro k s hk _ _
      rw [List.drop_of_length_le (by rw [List.length_take]; omega)]; rfl
    | succ n ih =>
      intro k s hk hs hd
      have hkl : k < l.length := by omega
      have hkt : k < (l.take i).length := by rw [List.length_take]; omega
      have hgt : gt (l.take i) k = gt l k := by rw [gt_eq hkt, gt_eq hkl, List.getElem_take]
      show m_firthref23_Steps_b4 (racts l) (i : Int) (forU _ _ n (k + 1)) k (kys s) = _
      have ihh := fun s' (h1 : CS s') (h2 : ∀ x ∈ kys s', x ∈ dts l) => ih (k + 1) s' (by omega) h1 h2
      generalize hG : forU (m_firthref23_Steps_b4 (racts l) (i : Int)) (fun out_3 => some out_3) n (k + 1) = G at ihh
      unfold m_firthref23_Steps_b4
      have e1 : decide (k < (racts l).length) = true := decide_eq_true (by simpa [racts] using hkl)
      have e2 : inb (i : Int) (racts l).length = true := by simp only [inb, racts, List.length_map, Bool.and_eq_true, decide_eq_true_eq]; omega
      simp only [e1, e2, chk, cond_true, Int.toNat_natCast]
      rw [gt_racts hkl, gt_racts hi, drop_gt hkt, hgt, List.flatMap_cons, unl_app]
      unfold m_firthref23_Steps_j5
      have hsl : s.length ≤ (dts l).length := by
        have := nodup_len (CL.nodup hs) hd
        simpa [kys] using this
      have htl : (tells (gt l k)).length ≤ (dts l).length := tells_len (by rw [gt_eq hkl]; exact List.getElem_mem hkl)
      have hsub : ∀ x ∈ kys (unl s (tells (gt l k))), x ∈ dts l := by
        intro x hx
        rcases mem_unl.1 hx with q | q
        · exact hd x q
        · exact List.mem_flatMap.2 ⟨gt l k, by rw [gt_eq hkl]; exact List.getElem_mem hkl, q⟩
      cases hc : ((gt l k).sess == (gt l i).sess) && (gt l k).oK with
      | false =>
        have : (((toR (gt l k)).sess != (toR (gt l i)).sess) || !(toR (gt l k)).oK) = true := by
          show (((gt l k).sess != (gt l i).sess) || !(gt l k).oK) = true
          rw [bne, ← Bool.not_and, hc]; rfl
        rw [this]
        simp only [cond_true, cond_false]
        exact ihh s hs hd
      | true =>
        have : (((toR (gt l k)).sess != (toR (gt l i)).sess) || !(toR (gt l k)).oK) = false := by
          show (((gt l k).sess != (gt l i).sess) || !(gt l k).oK) = false
          rw [bne, ← Bool.not_and, hc]; rfl
        rw [this]
        simp only [cond_true, cond_false, toR]
        cases hr : (gt l k).read with
        | true =>
          have ht : tells (gt l k) = (gt l k).reads := by simp [tells, hr]
          rw [ht] at htl hsub
          simp only [cond_true]
          rw [e_all hs (by omega), ht]
          simp only [Option.bind_some]
          exact ihh _ (unl_cs hs) hsub
        | false =>
          simp only [cond_false]
          by_cases hn : 0 < (gt l k).dot.n
          · have ht : tells (gt l k) = [(gt l k).dot] := by simp [tells, hr, hn]
            rw [ht] at htl hsub
            simp only [hn, decide_true, cond_true]
            rw [e_Put hs (by omega), ht]
            simp only [Option.bind_some]
            exact ihh _ (sput_cs hs) hsub
          · have ht : tells (gt l k) = [] := by simp [tells, hr, hn]
            simp only [hn, decide_false, cond_false]
            rw [ht]
            exact ihh s hs hd
  rw [show ([] : List Dot) = kys [] from rfl, key i 0 [] (by omega) cs_nil (by simp [kys]), List.drop_zero]; rfl
end Fw
end Go.Proofs.Ytldpanjodokefaa
