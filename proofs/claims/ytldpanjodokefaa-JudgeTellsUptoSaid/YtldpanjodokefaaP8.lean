/- The verdicts, as a function that can be reckoned; the closed run. No condition. -/
import Derived.Test.YtldpanjodokefaaP7
namespace Go.Proofs.Ytldpanjodokefaa
namespace Fw
set_option linter.unusedVariables false
set_option linter.unusedSimpArgs false
set_option linter.unusedSectionVars false
open Go.RowKit
noncomputable def bhC (l : Acts) (d : Dot) : List Dot := (m_firthref23_Behind (racts l) d).getD []
noncomputable def swC (l : Acts) (i : Nat) : List Dot := (m_firthref23_Saw (racts l) (i : Int)).getD []
/-- sizes that fit, vectors too -/
structure okj (l : Acts) : Prop where
  ok : okl l
  v : ∀ a ∈ l, a.seen.length ≤ lim
theorem okj.at_ {l : Acts} (h : okj l) (i : Nat) : (gt l i).seen.length ≤ lim := by
  by_cases hi : i < l.length
  · rw [gt_eq hi]; exact h.v _ (List.getElem_mem hi)
  · have : gt l i = default := by simp [gt, List.getD, List.getElem?_eq_none (show l.length ≤ i by omega)]
    rw [this]; decide
theorem mem_bhC {l : Acts} (h : okl l) {d x : Dot} : x ∈ bhC l d ↔ Bh l d x := by
  unfold bhC; rw [e_rBehind h, Option.getD_some, mem_bhS]
theorem mem_swC {l : Acts} (h : okl l) {i : Nat} (hi : i < l.length) {x : Dot} : x ∈ swC l i ↔ Rch l (stS l i) x := by
  unfold swC; rw [e_rSaw h hi, Option.getD_some, mem_swS]
noncomputable def hhC (l : Acts) (i : Nat) : List Dot :=
  swC l i ++ ((((firsts l).map (·.1)).filter (cov (gt l i).seen)).flatMap (fun d => d :: bhC l d) ++ (gt l i).reads.flatMap (fun d => d :: bhC l d))
noncomputable def grC (l : Acts) (h : List Dot) (key : ByteArray) : List Dot := (h.filter (kk l key)).filter fun d => !((h.filter (kk l key)).any fun e => (bhC l e).contains d)
def sameS (a b : List Dot) : Bool := a.all (fun x => b.contains x) && b.all (fun x => a.contains x)
noncomputable def rdC (l : Acts) (i : Nat) : Int :=
  bif (gt l i).reads.any (fun d => (fst l d).isNone) then 2 else
  bif (gt l i).reads.any (fun d => !(kk l (gt l i).key d)) then 3 else
  bif (firsts l).any (fun p => cov (gt l i).seen p.1 && !((bhC l p.1).all (cov (gt l i).seen))) then 4 else
  bif !((swC l i).all (cov (gt l i).seen)) then 5 else
  bif !(sameS (gt l i).reads (grC l (hhC l i) (gt l i).key)) then 6 else 0
def wrC (l : Acts) (i : Nat) : Int := bif decide (0 < (gt l i).dot.n) && (fst l (gt l i).dot != some i) then 1 else 0
noncomputable def vdC (l : Acts) (i : Nat) : Int := bif !(gt l i).read then wrC l i else bif (gt l i).oK then rdC l i else 0
noncomputable def jdR (l : Acts) : Nat → Nat → Int × Int
  | 0, _ => (-1, 0)
  | n + 1, k => bif vdC l k != 0 then ((k : Int), vdC l k) else jdR l n (k + 1)
noncomputable def jdC (l : Acts) : Int × Int := jdR l l.length 0
theorem e_writing {l : Acts} {i : Nat} (hi : i < l.length) (hr : (gt l i).read = false) : m_judge_trial_writing_l0 (trl l (bhS l)) (i : Int) = some (wrC l i) := by
  unfold m_judge_trial_writing_l0
  have e1 : inb (i : Int) (trl l (bhS l)).list.length = true := inb_nat hi
  rw [e1]
  simp only [chk, cond_true, Int.toNat_natCast]
  have hm : mget (gt l i).dot (firsts l) = (fst l (gt l i).dot).map fun k : Nat => (k : Int) := mget_firsts
  show (bif (decide (0 < (gt l i).dot.n)) && (((mget (gt l i).dot (firsts l)).getD 0) != (i : Int)) then some 1 else some 0) = _
  rw [hm]
  unfold wrC
  by_cases hn : 0 < (gt l i).dot.n
  · obtain ⟨k, hk, _⟩ := fst_of hi (show isw (gt l i) = true by simp [isw, hr, hn]) rfl
    rw [hk]
    simp only [hn, decide_true, Bool.true_and, Option.map_some, Option.getD_some]
    by_cases hki : k = i
    · subst hki; simp
    · have h1 : (((k : Nat) : Int) != (i : Int)) = true := by simp; omega
      have h2 : ((some k : Option Nat) != some i) = true := by simp [hki]
      rw [h1, h2]; rfl
  · simp [hn]
theorem e_told {l : Acts} {K : DS → Option Int} : ∀ {L : List Dot} {j : Nat} {s : DS}, forI (m_judge_trial_reading_l0_b1 (trl l (bhS l))) K j L s = bif L.any (fun d => (fst l d).isNone) then some 2 else K (unl s L)
  | [], _, _ => rfl
  | x :: L, j, s => by
    rw [forI_cons]
    have ih := e_told (l := l) (K := K) (L := L) (j := j + 1) (s := sput kl x s)
    generalize hG : forI (m_judge_trial_reading_l0_b1 (trl l (bhS l))) K (j + 1) L = G at ih
    unfold m_judge_trial_reading_l0_b1
    rw [show mget x (trl l (bhS l)).first = (fst l x).map fun k : Nat => (k : Int) from mget_firsts, List.any_cons]
    cases hf : fst l x with
    | none => rfl
    | some k =>
      simp only [Option.map_some, Option.isSome_some, Bool.not_true, cond_false, Option.isNone_some, Bool.false_or]
      exact ih
theorem any_perm {α : Type} {p : α → Bool} {a b : List α} (h : a.Perm b) : a.any p = b.any p := by
  rw [Bool.eq_iff_iff, List.any_eq_true, List.any_eq_true]
  exact ⟨fun ⟨x, h1, h2⟩ => ⟨x, h.mem_iff.1 h1, h2⟩, fun ⟨x, h1, h2⟩ => ⟨x, h.mem_iff.2 h1, h2⟩⟩
theorem any_mem {α : Type} {p : α → Bool} {a b : List α} (h : ∀ x, x ∈ a ↔ x ∈ b) : a.any p = b.any p := by
  rw [Bool.eq_iff_iff, List.any_eq_true, List.any_eq_true]
  exact ⟨fun ⟨x, h1, h2⟩ => ⟨x, (h x).1 h1, h2⟩, fun ⟨x, h1, h2⟩ => ⟨x, (h x).2 h1, h2⟩⟩
/-- the test of keys -/
theorem e_strange {l : Acts} {i : Nat} {T : DS} {Kn : Option Int} {r : Int} (hT : ∀ d ∈ kys T, (fst l d).isSome = true) (hK : (kys T).any (fun d => !(kk l (gt l i).key d)) = false → Kn = some r) (hr : (kys T).any (fun d => !(kk l (gt l i).key d)) = true → r = 3) :
    anyX (m_judge_trial_reading_l0_b2 (trl l (bhS l)) (i : Int)) (fun _ => Kn) T () = some r := by
  refine anyX_of fun L hL => ?_
  have key : ∀ L : DS, (∀ d ∈ kys L, (fst l d).isSome = true) → runX (m_judge_trial_reading_l0_b2 (trl l (bhS l)) (i : Int)) (fun _ => Kn) L () = bif (kys L).any (fun d => !(kk l (gt l i).key d)) then some 3 else Kn := by
    intro L
    induction L with
    | nil => intro _; rfl
    | cons p L ih =>
      intro hL
      have hp := hL p.1 List.mem_cons_self
      have hst : m_judge_trial_reading_l0_b2 (trl l (bhS l)) (i : Int) () p = bif !(kk l (gt l i).key p.1) then some (.inr (some 3)) else some (.inl ()) := by
        unfold m_judge_trial_reading_l0_b2
        rw [show mget p.1 (trl l (bhS l)).first = (fst l p.1).map fun k : Nat => (k : Int) from mget_firsts]
        cases hf : fst l p.1 with
        | none => rw [hf] at hp; cases hp
        | some k =>
          have := (fst_some hf).1
          simp only [Option.map_some, Option.getD_some, Int.toNat_natCast]
          rw [show inb (k : Int) (trl l (bhS l)).list.length = true from inb_nat this]
          simp only [chk, cond_true]
          unfold kk
          rw [hf]
          rfl
      unfold runX
      rw [hst]
      show _ = bif (p.1 :: kys L).any _ then some 3 else Kn
      rw [List.any_cons]
      cases hk : kk l (gt l i).key p.1 with
      | true => simp only [Bool.not_true, cond_false, Option.bind_some, Bool.false_or]; exact ih fun d hd => hL d (List.mem_cons_of_mem _ hd)
      | false => rfl
  have hmem : ∀ x, x ∈ kys L ↔ x ∈ kys T := fun x => (hL.map (·.1)).mem_iff
  rw [key L fun d hd => hT d ((hmem d).1 hd), any_mem hmem]
  cases hc : (kys T).any (fun d => !(kk l (gt l i).key d)) with
  | true => rw [hr hc]; rfl
  | false => exact hK hc
theorem mem_foldp2 {l : Acts} {y : Dot} {L : List Dot} {s : DS} : y ∈ kys (L.foldl (putS (trl l (bhS l))) s) ↔ y ∈ kys s ∨ ∃ e ∈ L, y = e ∨ Bh l e y := by
  rw [mem_foldp]
  simp only [bhd_eq, mem_bhS]
/-- the test of what the vector covers -/
theorem e_open {l : Acts} (h : okj l) {i : Nat} (hi : i < l.length) {K : DS → Option Int} {s : DS} {r : Int} (hs : CS s)
    (hK : ∀ s', (firsts l).any (fun p => cov (gt l i).seen p.1 && !((bhC l p.1).all (cov (gt l i).seen))) = false → CS s' → (∀ x, x ∈ kys s' ↔ x ∈ kys s ∨ ∃ e, (fst l e).isSome = true ∧ cov (gt l i).seen e = true ∧ (x = e ∨ Bh l e x)) → K s' = some r)
    (hr : (firsts l).any (fun p => cov (gt l i).seen p.1 && !((bhC l p.1).all (cov (gt l i).seen))) = true → r = 4) :
    anyX (m_judge_trial_reading_l0_b3 (trl l (bhS l)) (i : Int)) K (firsts l) s = some r := by
  refine anyX_of fun L hL => ?_
  have key : ∀ (L : List (Dot × Int)) (s : DS), CS s → runX (m_judge_trial_reading_l0_b3 (trl l (bhS l)) (i : Int)) K L s = bif L.any (fun p => cov (gt l i).seen p.1 && !((bhC l p.1).all (cov (gt l i).seen))) then some 4 else K (((L.map (·.1)).filter (cov (gt l i).seen)).foldl (putS (trl l (bhS l))) s) := by
    intro L
    induction L with
    | nil => intro s _; rfl
    | cons p L ih =>
      intro s hs
      have hst : m_judge_trial_reading_l0_b3 (trl l (bhS l)) (i : Int) s p = bif cov (gt l i).seen p.1 then (bif !((bhC l p.1).all (cov (gt l i).seen)) then some (.inr (some 4)) else some (.inl (putS (trl l (bhS l)) s p.1))) else some (.inl s) := by
        unfold m_judge_trial_reading_l0_b3
        show (Option.bind (m_vect_Covers (gt l (i : Int).toNat).seen p.1) _) = _
        rw [Int.toNat_natCast, e_cov (h.at_ i)]
        simp only [Option.bind_some]
        cases cov (gt l i).seen p.1 with
        | false => rfl
        | true =>
          simp only [cond_true]
          rw [show (mget p.1 (trl l (bhS l)).behind).getD [] = bhS l p.1 from bhd_eq l p.1]
          show (Option.bind (m_judge_covers (gt l (i : Int).toNat).seen (bhS l p.1)) _) = _
          rw [Int.toNat_natCast, e_covers (h.at_ i)]
          simp only [Option.bind_some]
          have : (kys (bhS l p.1)).all (cov (gt l i).seen) = (bhC l p.1).all (cov (gt l i).seen) := by unfold bhC; rw [e_rBehind h.ok]; rfl
          rw [this]
          cases (bhC l p.1).all (cov (gt l i).seen) with
          | false => rfl
          | true =>
            simp only [Bool.not_true, cond_false]
            rw [e_put hs]; rfl
      unfold runX
      rw [hst, List.any_cons, List.map_cons]
      cases hc : cov (gt l i).seen p.1 with
      | false =>
        simp only [cond_false, Option.bind_some, Bool.false_and, Bool.false_or, List.filter_cons, hc, Bool.false_eq_true, if_false]
        exact ih s hs
      | true =>
        simp only [cond_true, Bool.true_and, List.filter_cons, hc, if_true, List.foldl_cons]
        cases hb : (bhC l p.1).all (cov (gt l i).seen) with
        | false => rfl
        | true =>
          simp only [Bool.not_true, cond_false, Option.bind_some, Bool.false_or]
          exact ih _ (putS_cs hs)
  rw [key L s hs, any_perm hL]
  cases hc : (firsts l).any (fun p => cov (gt l i).seen p.1 && !((bhC l p.1).all (cov (gt l i).seen))) with
  | true => rw [hr hc]; rfl
  | false =>
    refine hK _ hc (foldp_cs hs) fun x => ?_
    rw [mem_foldp2]
    refine or_congr Iff.rfl ⟨?_, ?_⟩
    · rintro ⟨e, h1, h2⟩
      obtain ⟨h3, h4⟩ := List.mem_filter.1 h1
      obtain ⟨p, h5, rfl⟩ := List.mem_map.1 h3
      obtain ⟨k, h6, _⟩ := mem_firsts.1 (show (p.1, p.2) ∈ firsts l from hL.mem_iff.1 h5)
      exact ⟨p.1, by rw [h6]; rfl, h4, h2⟩
    · rintro ⟨e, h1, h2, h3⟩
      obtain ⟨k, hk⟩ := Option.isSome_iff_exists.1 h1
      exact ⟨e, List.mem_filter.2 ⟨List.mem_map.2 ⟨(e, (k : Int)), hL.mem_iff.2 (mem_firsts.2 ⟨k, hk, rfl⟩), rfl⟩, h2⟩, h3⟩
theorem e_puts {l : Acts} {K : DS → Option Int} {T s : DS} {r : Int} (hs : CS s) (hK : ∀ s', CS s' → (∀ x, x ∈ kys s' ↔ x ∈ kys s ∨ ∃ e ∈ kys T, x = e ∨ Bh l e x) → K s' = some r) :
    anyX (m_judge_trial_reading_l0_b4 (trl l (bhS l))) K T s = some r := by
  refine anyX_of fun L hL => ?_
  have key : ∀ (L s : DS), CS s → runX (m_judge_trial_reading_l0_b4 (trl l (bhS l))) K L s = K ((kys L).foldl (putS (trl l (bhS l))) s) := by
    intro L
    induction L with
    | nil => intro s _; rfl
    | cons p L ih =>
      intro s hs
      unfold runX m_judge_trial_reading_l0_b4
      rw [e_put hs]
      simp only [Option.bind_some]
      exact ih _ (putS_cs (t := trl l (bhS l)) (e := p.1) hs)
  rw [key L s hs]
  refine hK _ (foldp_cs hs) fun x => ?_
  rw [mem_foldp2]
  have hmem : ∀ x, x ∈ kys L ↔ x ∈ kys T := fun x => (hL.map (·.1)).mem_iff
  simp only [hmem]
theorem sameS_iff {a b : List Dot} : sameS a b = true ↔ ∀ x, x ∈ a ↔ x ∈ b := by
  unfold sameS
  simp only [Bool.and_eq_true, List.all_eq_true, List.contains_iff_mem]
  exact ⟨fun h x => ⟨h.1 x, h.2 x⟩, fun h => ⟨fun x hx => (h x).1 hx, fun x hx => (h x).2 hx⟩⟩
theorem mem_grC {l : Acts} (h : okl l) {H : List Dot} {key : ByteArray} {x : Dot} : x ∈ grC l H key ↔ x ∈ H ∧ kk l key x = true ∧ ¬ ∃ e ∈ H, kk l key e = true ∧ Bh l e x := by
  unfold grC
  rw [List.mem_filter, List.mem_filter, and_assoc]
  refine and_congr Iff.rfl (and_congr Iff.rfl ?_)
  rw [Bool.not_eq_true', Bool.eq_false_iff, ne_eq, List.any_eq_true]
  refine not_congr ⟨?_, ?_⟩
  · rintro ⟨e, h1, h2⟩
    obtain ⟨h3, h4⟩ := List.mem_filter.1 h1
    exact ⟨e, h3, h4, (mem_bhC h).1 (List.contains_iff_mem.1 h2)⟩
  · rintro ⟨e, h1, h2, h3⟩
    exact ⟨e, List.mem_filter.2 ⟨h1, h2⟩, List.contains_iff_mem.2 ((mem_bhC h).2 h3)⟩
theorem mem_hhC {l : Acts} (h : okl l) {i : Nat} (hi : i < l.length) {x : Dot} : x ∈ hhC l i ↔ Rch l (stS l i) x ∨ (∃ e, (fst l e).isSome = true ∧ cov (gt l i).seen e = true ∧ (x = e ∨ Bh l e x)) ∨ ∃ e ∈ (gt l i).reads, x = e ∨ Bh l e x := by
  unfold hhC
  rw [List.mem_append, List.mem_append, mem_swC h hi]
  refine or_congr Iff.rfl (or_congr ?_ ?_)
  · rw [List.mem_flatMap]
    constructor
    · rintro ⟨e, h1, h2⟩
      obtain ⟨h3, h4⟩ := List.mem_filter.1 h1
      obtain ⟨p, h5, rfl⟩ := List.mem_map.1 h3
      obtain ⟨k, h6, _⟩ := mem_firsts.1 (show (p.1, p.2) ∈ firsts l from h5)
      refine ⟨p.1, by rw [h6]; rfl, h4, ?_⟩
      rcases List.mem_cons.1 h2 with q | q
      · exact .inl q
      · exact .inr ((mem_bhC h).1 q)
    · rintro ⟨e, h1, h2, h3⟩
      obtain ⟨k, hk⟩ := Option.isSome_iff_exists.1 h1
      refine ⟨e, List.mem_filter.2 ⟨List.mem_map.2 ⟨(e, (k : Int)), mem_firsts.2 ⟨k, hk, rfl⟩, rfl⟩, h2⟩, ?_⟩
      rcases h3 with q | q
      · exact List.mem_cons.2 (.inl q)
      · exact List.mem_cons.2 (.inr ((mem_bhC h).2 q))
  · rw [List.mem_flatMap]
    constructor
    · rintro ⟨e, h1, h2⟩
      refine ⟨e, h1, ?_⟩
      rcases List.mem_cons.1 h2 with q | q
      · exact .inl q
      · exact .inr ((mem_bhC h).1 q)
    · rintro ⟨e, h1, h3⟩
      refine ⟨e, h1, ?_⟩
      rcases h3 with q | q
      · exact List.mem_cons.2 (.inl q)
      · exact List.mem_cons.2 (.inr ((mem_bhC h).2 q))
theorem e_reading {l : Acts} (h : okj l) {i : Nat} (hi : i < l.length) : m_judge_trial_reading_l0 (trl l (bhS l)) (i : Int) = some (rdC l i) := by
  unfold m_judge_trial_reading_l0
  rw [show inb (i : Int) (trl l (bhS l)).list.length = true from inb_nat hi]
  simp only [chk, cond_true]
  rw [show (gt (trl l (bhS l)).list (i : Int).toNat) = gt l i by rw [Int.toNat_natCast]; rfl, e_told]
  unfold rdC
  cases h2 : (gt l i).reads.any (fun d => (fst l d).isNone) with
  | true => rfl
  | false =>
    simp only [cond_false]
    have hkn : ∀ d ∈ (gt l i).reads, (fst l d).isSome = true := by
      intro d hd
      cases hf : fst l d with
      | some k => rfl
      | none =>
        exfalso
        rw [Bool.eq_false_iff] at h2
        exact h2 (List.any_eq_true.2 ⟨d, hd, by rw [hf]; rfl⟩)
    have hTm : ∀ x, x ∈ kys (unl [] (gt l i).reads) ↔ x ∈ (gt l i).reads := fun x => by rw [mem_unl]; simp [kys]
    have hTc : CS (unl [] (gt l i).reads) := unl_cs cs_nil
    have hT3 : (kys (unl [] (gt l i).reads)).any (fun d => !(kk l (gt l i).key d)) = (gt l i).reads.any (fun d => !(kk l (gt l i).key d)) := any_mem hTm
    generalize hTT : unl [] (gt l i).reads = T at *
    refine e_strange (fun d hd => hkn d ((hTm d).1 hd)) (fun h3 => ?_) (fun h3 => ?_)
    rotate_left 1
    · rw [hT3] at h3; rw [h3]; rfl
    rw [hT3] at h3
    rw [h3]
    simp only [cond_false]
    rw [e_saw (t := trl l (bhS l)) h.ok.fine hi]
    simp only [Option.bind_some]
    refine e_open h hi (sawS_cs _ _) (fun H h4 hHc hHm => ?_) (fun h4 => by rw [h4]; rfl)
    rw [h4]
    simp only [cond_false]
    rw [e_covers (h.at_ i)]
    simp only [Option.bind_some]
    have h5e : (kys (sawS (trl l (bhS l)) i)).all (cov (gt l i).seen) = (swC l i).all (cov (gt l i).seen) := by unfold swC; rw [e_rSaw h.ok hi]; rfl
    rw [h5e]
    cases h5 : (swC l i).all (cov (gt l i).seen) with
    | false => rfl
    | true =>
      simp only [Bool.not_true, cond_false]
      refine e_puts hHc fun H2 hc2 hm2 => ?_
      obtain ⟨g, h6, h7, h8⟩ := e_greatest (l := l) (h := H2) (key := (gt l i).key)
      rw [h6]
      simp only [Option.bind_some]
      rw [e_Equal hTc h7]
      simp only [Option.bind_some]
      have hmm : ∀ x, x ∈ kys H2 ↔ x ∈ hhC l i := by
        intro x
        rw [hm2, hHm, mem_hhC h.ok hi, show x ∈ kys (sawS (trl l (bhS l)) i) ↔ Rch l (stS l i) x from mem_swS, or_assoc]
        simp only [hTm]
      have hgg : ∀ x, x ∈ kys g ↔ x ∈ grC l (hhC l i) (gt l i).key := by
        intro x
        rw [h8, mem_grC h.ok]
        simp only [hmm]
      have hsm : sameS (gt l i).reads (grC l (hhC l i) (gt l i).key) = decide (T = g) := by
        rw [Bool.eq_iff_iff, sameS_iff, decide_eq_true_eq]
        constructor
        · intro hx
          exact CS.ext hTc h7 fun x => by rw [hTm, hgg, hx]
        · intro e x
          rw [← hTm, e, hgg]
      rw [hsm]
      cases decide (T = g) <;> rfl
theorem e_Judge {l : Acts} (h : okj l) : m_judge_Judge_l0 l = some (jdC l) := by
  unfold m_judge_Judge_l0
  rw [e_try h.ok.fine h.ok.m]
  simp only [Option.bind_some]
  have key : ∀ (L : Acts) (k : Nat), L = l.drop k → k ≤ l.length → forI (m_judge_Judge_l0_b4 (trl l (bhS l))) (fun _ => some (-1, 0)) k L () = some (jdR l (l.length - k) k) := by
    intro L
    induction L with
    | nil =>
      intro k hL hk
      have : l.length - k = 0 := by
        have := congrArg List.length hL
        rw [List.length_drop, List.length_nil] at this; omega
      rw [this]; rfl
    | cons a L ih =>
      intro k hL hk
      have hkl : k < l.length := by
        have := congrArg List.length hL
        rw [List.length_drop, List.length_cons] at this; omega
      rw [drop_gt hkl] at hL
      obtain ⟨ha, hL⟩ := List.cons.inj hL
      have ihh := ih (k + 1) hL hkl
      rw [forI_cons, show l.length - k = (l.length - (k + 1)) + 1 by omega]
      generalize hG : forI (m_judge_Judge_l0_b4 (trl l (bhS l))) (fun _ => some (-1, 0)) (k + 1) L = G at ihh
      unfold m_judge_Judge_l0_b4 jdR vdC
      unfold m_judge_Judge_l0_j5
      rw [ha]
      cases hr : (gt l k).read with
      | false =>
        simp only [Bool.not_false, cond_true]
        rw [e_writing hkl hr]
        simp only [Option.bind_some]
        cases wrC l k != 0 with
        | true => rfl
        | false => exact ihh
      | true =>
        simp only [Bool.not_true, cond_false]
        cases ho : (gt l k).oK with
        | true =>
          simp only [cond_true]
          rw [e_reading h hkl]
          simp only [Option.bind_some]
          cases rdC l k != 0 with
          | true => rfl
          | false => exact ihh
        | false =>
          simp only [cond_false]
          exact ihh
  exact key l 0 (by rw [List.drop_zero]) (Nat.zero_le _)
/-! ### what a verdict on the whole tells -/
theorem jdR_zero {l : Acts} : ∀ {n k : Nat}, ((jdR l n k).2 = 0 ↔ ∀ i, k ≤ i → i < k + n → vdC l i = 0) ∧ ((jdR l n k).1 = -1 ↔ (jdR l n k).2 = 0)
  | 0, k => by
    unfold jdR
    exact ⟨⟨fun _ i h1 h2 => by omega, fun _ => rfl⟩, by simp⟩
  | n + 1, k => by
    unfold jdR
    obtain ⟨h1, h2⟩ := jdR_zero (l := l) (n := n) (k := k + 1)
    by_cases hv : vdC l k = 0
    · have : (vdC l k != 0) = false := by simp [hv]
      rw [this]
      simp only [cond_false]
      refine ⟨?_, h2⟩
      rw [h1]
      constructor
      · intro h i h3 h4
        by_cases e : i = k
        · rw [e]; exact hv
        · exact h i (by omega) (by omega)
      · exact fun h i h3 h4 => h i (by omega) (by omega)
    · have : (vdC l k != 0) = true := by simp [hv]
      rw [this]
      simp only [cond_true]
      refine ⟨⟨fun h => absurd h hv, fun h => absurd (h k (Nat.le_refl _) (by omega)) hv⟩, ?_⟩
      constructor
      · intro h; omega
      · intro h; exact absurd h hv
theorem jdC_zero {l : Acts} : (jdC l).2 = 0 ↔ ∀ i, i < l.length → vdC l i = 0 := by
  unfold jdC
  rw [jdR_zero.1]
  exact ⟨fun h i hi => h i (Nat.zero_le _) (by omega), fun h i _ hi => h i (by omega)⟩
theorem jdC_one {l : Acts} : (jdC l).1 = -1 ↔ (jdC l).2 = 0 := jdR_zero.2
/-! ### the closed run -/
theorem e_Same0 {b : List Dot} : ∀ {L : List Dot} {i : Nat}, i + L.length = b.length → forI (m_firthref23_Same_b1 b) (fun _ => some true) i L () = some (decide (L = b.drop i))
  | [], i, h => by
    rw [forI_nil, List.drop_of_length_le (by simpa using h.symm ▸ Nat.le_refl _)]; simp
  | x :: L, i, h => by
    rw [List.length_cons] at h
    have hib : i < b.length := by omega
    have ih := e_Same0 (b := b) (L := L) (i := i + 1) (by omega)
    rw [forI_cons]
    generalize hG : forI (m_firthref23_Same_b1 b) (fun _ => some true) (i + 1) L = G at ih
    unfold m_firthref23_Same_b1
    have : decide (i < b.length) = true := decide_eq_true hib
    simp only [this, chk, cond_true]
    rw [drop_gt hib]
    by_cases hx : x = gt b i
    · have h1 : (x != gt b i) = false := by simp [hx]
      rw [h1]
      simp only [cond_false]
      rw [ih, hx]
      simp
    · have h1 : (x != gt b i) = true := by simp [hx]
      rw [h1]
      simp [hx]
theorem e_Same {a b : List Dot} : m_firthref23_Same a b = some (decide (a = b)) := by
  unfold m_firthref23_Same
  by_cases h : a.length = b.length
  · have : ((((a.length : Nat) : Int)) != ((b.length : Nat) : Int)) = false := by simp [h]
    rw [this]
    simp only [cond_false]
    rw [e_Same0 (by omega), List.drop_zero]
  · have : ((((a.length : Nat) : Int)) != ((b.length : Nat) : Int)) = true := by simp; omega
    rw [this]
    have h2 : ¬ a = b := fun e => h (by rw [e])
    simp [h2]
def L1 : Acts := [⟨false, 1, ⟨#[107]⟩, ⟨1, 1⟩, true, [], []⟩, ⟨false, 1, ⟨#[107]⟩, ⟨1, 2⟩, true, [], []⟩, ⟨true, 3, ⟨#[107]⟩, ⟨0, 0⟩, true, [⟨1, 2⟩], [2, 0]⟩, ⟨false, 3, ⟨#[107]⟩, ⟨2, 1⟩, true, [], []⟩]
def L2 : Acts := [⟨false, 1, ⟨#[107]⟩, ⟨1, 1⟩, true, [], []⟩, ⟨false, 1, ⟨#[107]⟩, ⟨1, 2⟩, true, [], []⟩, ⟨true, 3, ⟨#[107]⟩, ⟨0, 0⟩, true, [⟨1, 1⟩], [2, 0]⟩, ⟨false, 3, ⟨#[107]⟩, ⟨2, 1⟩, true, [], []⟩]
theorem ok_L1 : okj L1 := ⟨⟨⟨by decide, by decide⟩, by decide, by decide⟩, by decide⟩
theorem ok_L2 : okj L2 := ⟨⟨⟨by decide, by decide⟩, by decide, by decide⟩, by decide⟩
theorem j_L1 : jdC L1 = (-1, 0) := by decide +kernel
theorem j_L2 : jdC L2 = (2, 6) := by decide +kernel
theorem b_L1 : bhC L1 ⟨2, 1⟩ = [⟨1, 1⟩, ⟨1, 2⟩] := by decide +kernel
theorem e_awake : m_firthlaw23_awake = some true := by
  have h1 := e_Judge ok_L1
  have h2 := e_Judge ok_L2
  have h3 := e_Behind ok_L1.ok (d := ⟨2, 1⟩)
  have h4 : kys (bhS L1 ⟨2, 1⟩) = [⟨1, 1⟩, ⟨1, 2⟩] := by
    rw [← b_L1]; unfold bhC; rw [e_rBehind ok_L1.ok]; rfl
  rw [h4] at h3
  rw [j_L1] at h1
  rw [j_L2] at h2
  have c : ∀ x : Int, x = 1 ∨ x = 2 ∨ x = 0 → i64b x = true := by rintro x (h | h | h) <;> subst h <;> decide
  unfold m_firthlaw23_awake m_firthlaw23_dot
  simp only [Option.bind_some, c 1 (by simp), c 2 (by simp), chk, cond_true]
  show (Option.bind (m_judge_Judge_l0 L1) fun z33 => (Option.bind (m_judge_Behind_l0 L1 ⟨2, 1⟩) fun z45 => (Option.bind (m_judge_Judge_l0 L2) _))) = _
  rw [h1, h3, h2]
  simp only [Option.bind_some, gcall]
  have c1 : i64b 1 = true := by decide
  have c2 : i64b 2 = true := by decide
  simp [e_Same, c1, c2]
end Fw
end Go.Proofs.Ytldpanjodokefaa
