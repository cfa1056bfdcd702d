/- The plain laws of layer 12. No condition. -/
import Derived.Test.YtdhenoidmialaaaP5
namespace Go.Proofs.Ytdhenoidmialaaa
namespace Fw
set_option linter.unusedVariables false
set_option linter.unusedSimpArgs false
set_option linter.unusedSectionVars false

theorem e_awake : m_firthlaw12_awake = some true := by
  have h1 : ordS [4] 0 = [4] := by decide +kernel
  have h2 : (listS [1, 2, 3] 5 9).length = 3 := by decide +kernel
  have h3 : m_ring_Right [1, 3] = some true := by decide +kernel
  have h4 : m_ring_Owns [4] 4 1 = some [0, 1, 2, 3, 4, 5, 6, 7] := by
    have hl : ([4] : List Int).length ≤ lim := by decide
    have h : ∀ i : Nat, i < 8 → listS [4] ((i : Nat) : Int) 1 = [4] := by decide +kernel
    unfold m_ring_Owns
    refine forU_inv (fun i s => some [0, 1, 2, 3, 4, 5, 6, 7]) (fun i s => s = (([0, 1, 2, 3, 4, 5, 6, 7] : List Int).take i)) (fun s hs => by rw [hs]; rfl) (fun f i s hi hs hf => ?_) rfl
    subst hs
    unfold m_ring_Owns_b4 m_ring_Owns_j5
    rw [e_List hl, Option.bind_some, h i hi, e_Contains, Option.bind_some, show inM [4] 4 = true from rfl, cond_true, chk_t (by rw [decide_eq_true_eq, lim_eq, List.length_take]; omega)]
    refine hf _ ?_
    have : ∀ i : Nat, i < 8 → (([0, 1, 2, 3, 4, 5, 6, 7] : List Int).take i) ++ [((i : Nat) : Int)] = (([0, 1, 2, 3, 4, 5, 6, 7] : List Int).take (i + 1)) := by decide
    exact this i hi
  unfold m_firthlaw12_awake
  rw [e_List (by decide), Option.bind_some, h3, h4, e_List (by decide)]
  have h5 : listS [4] 0 1 = [4] := by decide +kernel
  rw [h5]
  simp only [Option.bind_some, h2]
  rfl
theorem lists_law {ms : List Int} (hl : ms.length ≤ lim) (part n : Int) : m_firthlaw12_RingLists ms part n = some true := by
  unfold m_firthlaw12_RingLists
  rw [e_awake, e_Right hl, e_rRight hl]
  simp only [Option.bind_some, gcall_s]
  rw [e_List hl, e_rList hl, e_Rest hl, e_rRest hl]
  simp only [Option.bind_some, e_Ints, cond_true, beq_self_eq_true, Bool.and_self, decide_true]

/-! ### the whole -/
theorem rgt_nodup {ms : List Int} (h : Rgt ms) : ms.Nodup := h.2.2.imp (fun h e => by omega)
theorem count_nodup : ∀ {l : List Int}, l.Nodup → ∀ {x : Int}, x ∈ l → l.count x = 1
  | [], _, x, h => by cases h
  | y :: l, hn, x, h => by
    obtain ⟨h1, h2⟩ := List.nodup_cons.1 hn
    rw [List.count_cons]
    by_cases e : y = x
    · subst e
      rw [List.count_eq_zero_of_not_mem h1]; simp
    · have hx : x ∈ l := by rcases List.mem_cons.1 h with e2 | e2; exact absurd e2.symm e; exact e2
      rw [count_nodup h2 hx]; simp [e]
theorem count_one {ms l : List Int} (h : l.Perm ms) (hn : ms.Nodup) {x : Int} (hx : x ∈ ms) : l.count x = 1 := by
  rw [h.count_eq]; exact count_nodup hn hx
/-- how often each was seen -/
def Seen (s : List Int) (l : List Int) : Prop := s.length = 9 ∧ ∀ x : Int, 1 ≤ x → x ≤ 8 → gt s x.toNat = ((l.count x : Nat) : Int)
theorem gt_set {α : Type} [Inhabited α] {l : List α} {i j : Nat} {v : α} (hi : i < l.length) : gt (l.set i v) j = if i = j then v else gt l j := by
  unfold gt
  rw [List.getD_eq_getElem?_getD, List.getD_eq_getElem?_getD, List.getElem?_set]
  split
  · rename_i h; subst h; simp [hi]
  · rfl
theorem Seen.step {s l : List Int} {v : Int} (h : Seen s l) (h1 : 1 ≤ v) (h8 : v ≤ 8) (hl : l.length ≤ 100) : Seen (s.set v.toNat (w64 (gt s v.toNat + 1))) (l ++ [v]) := by
  refine ⟨by rw [List.length_set]; exact h.1, fun x hx1 hx8 => ?_⟩
  rw [gt_set (by rw [h.1]; omega), List.count_append]
  have hc : l.count v ≤ l.length := List.count_le_length
  by_cases e : v = x
  · subst e
    rw [if_pos rfl, h.2 v h1 h8, List.count_singleton_self, w64_i (by unfold I64; omega)]; omega
  · rw [if_neg (by omega), h.2 x hx1 hx8, List.count_singleton]
    rw [show (v == x) = false by simpa using e]; simp
theorem inb9 {x : Int} (h1 : 1 ≤ x) (h8 : x ≤ 8) : inb x 9 = true := by unfold inb; rw [Bool.and_eq_true, decide_eq_true_eq, decide_eq_true_eq]; omega
theorem whole_law {ms : List Int} (hl : ms.length ≤ lim) (part n : Int) : m_firthlaw12_RingWhole ms part n = some true := by
  unfold m_firthlaw12_RingWhole
  rw [e_awake, e_rRight hl]
  simp only [Option.bind_some, gcall_s]
  show (bif ((((((!true) || (!(rgtB ms))) || (decide (part < 0))) || (decide (7 < part))) || (decide (n < 0))) || (decide (9 < n))) then _ else _) = _
  cases h : ((((((!true) || (!(rgtB ms))) || (decide (part < 0))) || (decide (7 < part))) || (decide (n < 0))) || (decide (9 < n)))
  rotate_left
  · rfl
  simp only [Bool.or_eq_false_iff, Bool.not_eq_false', decide_eq_false_iff_not] at h
  obtain ⟨⟨⟨⟨⟨_, hr⟩, h0⟩, h7⟩, hn0⟩, hn9⟩ := h
  have hR := rgtB_iff.1 hr
  obtain ⟨p, hp, rfl⟩ : ∃ p : Nat, p < 8 ∧ part = (p : Int) := ⟨part.toNat, by omega, by omega⟩
  rw [cond_false, w64_i (x := n + 1) (by unfold I64; omega), e_List hl, e_Rest hl, e_List hl]
  simp only [Option.bind_some]
  have hperm := ordS_perm hR hp
  have hlen := hperm.length_eq
  have h8 := rgt_len hR
  have hc1 : cutN n (ordS ms p).length = min n.toNat ms.length := by unfold cutN; rw [hlen]; omega
  have hc2 : cutN (n + 1) (ordS ms p).length = min (n.toNat + 1) ms.length := by unfold cutN; rw [hlen]; omega
  have ha : (listS ms p n).length = min n.toNat ms.length := by unfold listS; rw [hc1, List.length_take, hlen]; omega
  have hb : (restS ms p n).length = ms.length - min n.toNat ms.length := by unfold restS; rw [hc1, List.length_drop, hlen]
  have hc : (listS ms p (n + 1)).length = min (n.toNat + 1) ms.length := by unfold listS; rw [hc2, List.length_take, hlen]; omega
  have hcond : (((((listS ms p n).length : Nat) : Int) != (min n ((ms.length : Nat) : Int))) || ((w64 ((((listS ms p n).length : Nat) : Int) + (((restS ms p n).length : Nat) : Int))) != ((ms.length : Nat) : Int))) = false := by
    rw [ha, hb, w64_i (by unfold I64; omega), Bool.or_eq_false_iff, bne_eq_false_iff_eq, bne_eq_false_iff_eq]; omega
  rw [hcond, cond_false]
  have hab : listS ms p n ++ restS ms p n = ordS ms p := List.take_append_drop _ _
  have hmem : ∀ x ∈ ordS ms p, 1 ≤ x ∧ x ≤ 8 := fun x hx => hR.2.1 x (hperm.subset hx)
  have hac : ∀ i, i < (listS ms p n).length → gt (listS ms p n) i = gt (ordS ms p) i := fun i hi => by
    unfold listS at hi ⊢
    rw [List.length_take] at hi
    rw [gt_eq (by rw [List.length_take]; omega), List.getElem_take, gt_eq (by omega)]
  have hcc : ∀ i, i < (listS ms p (n + 1)).length → gt (listS ms p (n + 1)) i = gt (ordS ms p) i := fun i hi => by
    unfold listS at hi ⊢
    rw [List.length_take] at hi
    rw [gt_eq (by rw [List.length_take]; omega), List.getElem_take, gt_eq (by omega)]
  refine forI_inv (fun _ _ => some true) (fun i s => Seen s ((listS ms p n).take i)) (fun s hs => ?_) (fun f i s hi hs hf => ?_) ⟨rfl, fun x h1 h8 => ?_⟩
  · rw [List.take_length] at hs
    refine forI_inv (fun _ _ => some true) (fun i s => Seen s (listS ms p n ++ (restS ms p n).take i)) (fun s2 hs2 => ?_) (fun f i s2 hi hs2 hf => ?_) (by simpa using hs)
    · rw [List.take_length, hab] at hs2
      refine forI_inv (fun _ _ => some true) (fun _ _ => True) (fun _ _ => ?_) (fun f i _ hi _ hf => ?_) trivial
      · have hlast : (restS ms p n).length ≠ 0 → (listS ms p (n + 1)).length = (listS ms p n).length + 1 ∧ gt (listS ms p (n + 1)) (listS ms p n).length = gt (restS ms p n) 0 := by
          intro hne
          have h3 : (listS ms p (n + 1)).length = (listS ms p n).length + 1 := by rw [ha, hc]; rw [hb] at hne; omega
          refine ⟨h3, ?_⟩
          rw [hcc _ (by omega), ← hab, gt_append_right (Nat.le_refl _), Nat.sub_self]
        by_cases hne : (restS ms p n).length = 0
        · rw [hne]; rfl
        · obtain ⟨h3, h4⟩ := hlast hne
          have e0 : ((((restS ms p n).length : Nat) : Int) == 0) = false := by rw [beq_eq_false_iff_ne]; omega
          rw [e0, h3, h4, w64_i (by unfold I64; omega)]
          rw [show ((((listS ms p n).length + 1 : Nat) : Int) == (((listS ms p n).length : Nat) : Int) + 1) = true by rw [beq_iff_eq]; omega]
          rw [chk_t (show imp _ (decide ((listS ms p n).length < (listS ms p n).length + 1)) = true by rw [show decide ((listS ms p n).length < (listS ms p n).length + 1) = true by simp]; rfl)]
          rw [chk_t (show imp _ (decide (0 < (restS ms p n).length)) = true by rw [show decide (0 < (restS ms p n).length) = true by rw [decide_eq_true_eq]; omega]; rfl)]
          simp
      · have hx := hR.2.1 _ (gt_mem hi)
        unfold m_firthlaw12_RingWhole_b3
        rw [chk_t (inb9 hx.1 hx.2), hs2.2 _ hx.1 hx.2, count_one hperm (rgt_nodup hR) (gt_mem hi)]
        exact hf _ trivial
    · have hx := hmem (gt (restS ms p n) i) (by rw [← hab]; exact List.mem_append.2 (.inr (gt_mem hi)))
      unfold m_firthlaw12_RingWhole_b2
      rw [chk_t (inb9 hx.1 hx.2)]
      refine hf _ ?_
      rw [take_gt hi, ← List.append_assoc]
      exact hs2.step hx.1 hx.2 (by rw [List.length_append, List.length_take]; omega)
  · have hx := hmem (gt (listS ms p n) i) (by rw [← hab]; exact List.mem_append.2 (.inl (gt_mem hi)))
    unfold m_firthlaw12_RingWhole_b1
    have hi2 : i < (listS ms p (n + 1)).length := by omega
    rw [chk_t (by rw [decide_eq_true_eq]; exact hi2), hac i hi, hcc i hi2, bne_self_eq_false, cond_false]
    rw [hac i hi] at hx
    rw [chk_t (inb9 hx.1 hx.2)]
    refine hf _ ?_
    rw [take_gt hi, hac i hi]
    exact hs.step hx.1 hx.2 (by rw [List.length_take]; omega)
  · have : x.toNat < (List.replicate 9 (0 : Int)).length := by simp; omega
    show gt (List.replicate 9 (0 : Int)) x.toNat = _
    rw [gt_eq this, List.getElem_replicate]; simp

/-! ### who comes or leaves -/
theorem rgt_without {ms : List Int} {k : Nat} (h : Rgt ms) (hk : k < ms.length) (h2 : 2 ≤ ms.length) : Rgt (ms.eraseIdx k) ∧ ∀ x, x ∈ ms.eraseIdx k ↔ x ∈ ms ∧ x ≠ gt ms k := by
  have hm : ∀ x, x ∈ ms.eraseIdx k ↔ x ∈ ms ∧ x ≠ gt ms k := by
    intro x
    rw [List.mem_eraseIdx_iff_getElem]
    constructor
    · rintro ⟨i, hi, hne, rfl⟩
      refine ⟨List.getElem_mem hi, fun e => hne ?_⟩
      rw [gt_eq hk] at e
      exact (List.getElem_inj (rgt_nodup h)).1 e
    · rintro ⟨hx, hne⟩
      obtain ⟨i, hi, rfl⟩ := List.getElem_of_mem hx
      exact ⟨i, hi, fun e => hne (by subst e; rw [gt_eq hk]), rfl⟩
  refine ⟨⟨by rw [List.length_eraseIdx_of_lt hk]; omega, fun x hx => h.2.1 x ((hm x).1 hx).1, h.2.2.sublist (List.eraseIdx_sublist _ _)⟩, hm⟩
theorem ordS_without {ms : List Int} {k p : Nat} (h : Rgt ms) (hk : k < ms.length) (h2 : 2 ≤ ms.length) (hp : p < 8) : ordS (ms.eraseIdx k) ((p : Nat) : Int) = (ordS ms ((p : Nat) : Int)).filter (fun x => x != gt ms k) := by
  obtain ⟨hr, hm⟩ := rgt_without h hk h2
  rw [ordS_in hr hp, ordS_in h hp, List.filter_filter]
  refine List.filter_congr fun x _ => ?_
  rw [Bool.eq_iff_iff, inM_iff, hm, Bool.and_eq_true, inM_iff, bne_iff_ne, And.comm]
theorem listS8 {ms : List Int} {part : Int} : listS ms part 8 = ordS ms part := by
  have := ordS_len ms part
  unfold listS
  rw [List.take_of_length_le]
  unfold cutN; omega
theorem stable_at {ms : List Int} (hl : ms.length ≤ lim) (h : Rgt ms) (h2 : 2 ≤ ms.length) {k : Nat} (hk : k < ms.length) : m_firthlaw12_RingStable_j1 ms ((k : Nat) : Int) = some true := by
  have h8 := rgt_len h
  have hin : ∀ j : Nat, j ≤ ms.length → inle ((j : Nat) : Int) ms.length = true := fun j hj => by unfold inle; rw [Bool.and_eq_true, decide_eq_true_eq, decide_eq_true_eq]; omega
  unfold m_firthlaw12_RingStable_j1
  have hw : w64 (((k : Nat) : Int) + 1) = ((k + 1 : Nat) : Int) := by rw [w64_i (by unfold I64; omega)]; omega
  rw [hw, chk_t (hin k (by omega)), chk_t (hin (k + 1) (by omega)), Int.toNat_natCast, Int.toNat_natCast, chk_t (by rw [decide_eq_true_eq, List.length_take, lim_eq]; omega), chk_t (by rw [decide_eq_true_eq, List.length_take, List.length_drop, lim_eq]; omega)]
  refine forU_inv (fun _ _ => some true) (fun _ _ => True) (fun _ _ => rfl) (fun f i _ hi _ hf => ?_) trivial
  unfold m_firthlaw12_RingStable_b22
  rw [e_List hl, Option.bind_some, listS8, hw, Int.toNat_natCast, Int.toNat_natCast]
  have he : ms.take k ++ ms.drop (k + 1) = ms.eraseIdx k := (List.eraseIdx_eq_take_drop_succ ms k).symm
  rw [he]
  have hel : (ms.eraseIdx k).length ≤ lim := by rw [List.length_eraseIdx_of_lt hk, lim_eq]; omega
  have hol := ordS_len ms ((i : Nat) : Int)
  refine forI_inv (fun _ _ => some true) (fun j s => s = ((ordS ms ((i : Nat) : Int)).take j).filter (fun x => x != gt ms k)) (fun s hs => ?_) (fun g j s hj hs hg => ?_) (by simp)
  · rw [List.take_length] at hs
    rw [e_List hel, Option.bind_some, listS8, e_Ints, Option.bind_some, hs, ordS_without h hk h2 hi, decide_eq_true rfl]
    exact hf _ trivial
  · unfold m_firthlaw12_RingStable_b26 m_firthlaw12_RingStable_j27
    rw [chk_t (show inb ((k : Nat) : Int) ms.length = true by unfold inb; rw [Bool.and_eq_true, decide_eq_true_eq, decide_eq_true_eq]; omega), Int.toNat_natCast]
    have hsl : s.length ≤ 8 := by rw [hs]; exact Nat.le_trans (List.length_filter_le _ _) (by rw [List.length_take]; omega)
    have hnext := hg (((ordS ms ((i : Nat) : Int)).take (j + 1)).filter (fun x => x != gt ms k)) rfl
    rw [take_gt hj, List.filter_append, ← hs] at hnext
    cases hb : (gt (ordS ms ((i : Nat) : Int)) j != gt ms k)
    · rw [cond_false]
      simpa [List.filter, hb] using hnext
    · rw [cond_true, chk_t (by rw [decide_eq_true_eq, lim_eq]; omega)]
      simpa [List.filter, hb] using hnext
theorem stable_law {ms : List Int} (hl : ms.length ≤ lim) (gone : Int) : m_firthlaw12_RingStable ms gone = some true := by
  unfold m_firthlaw12_RingStable
  rw [e_awake, e_rRight hl]
  simp only [Option.bind_some, gcall_s]
  show (bif (((!true) || (!(rgtB ms))) || (decide (((ms.length : Nat) : Int) < 2))) then _ else _) = _
  cases h : (((!true) || (!(rgtB ms))) || (decide (((ms.length : Nat) : Int) < 2)))
  rotate_left
  · rfl
  simp only [Bool.or_eq_false_iff, Bool.not_eq_false', decide_eq_false_iff_not] at h
  have hr := rgtB_iff.1 h.1.2
  have h8 := rgt_len hr
  have h2 : 2 ≤ ms.length := by omega
  rw [cond_false, chk_t (by rw [bne_iff_ne]; omega)]
  have hlt : gone.tmod ((ms.length : Nat) : Int) < ((ms.length : Nat) : Int) := Int.tmod_lt_of_pos _ (by omega)
  have hgt : -((ms.length : Nat) : Int) < gone.tmod ((ms.length : Nat) : Int) := by
    have := Int.tmod_lt_of_pos (-gone) (b := ((ms.length : Nat) : Int)) (by omega)
    rw [Int.neg_tmod] at this; omega
  by_cases hneg : gone.tmod ((ms.length : Nat) : Int) < 0
  · rw [decide_eq_true hneg, cond_true, w64_i (by unfold I64; omega)]
    obtain ⟨k, hk⟩ : ∃ k : Nat, gone.tmod ((ms.length : Nat) : Int) + ((ms.length : Nat) : Int) = (k : Int) := ⟨(gone.tmod ((ms.length : Nat) : Int) + ((ms.length : Nat) : Int)).toNat, by omega⟩
    rw [hk]
    exact stable_at hl hr h2 (by omega)
  · rw [decide_eq_false hneg, cond_false]
    obtain ⟨k, hk⟩ : ∃ k : Nat, gone.tmod ((ms.length : Nat) : Int) = (k : Int) := ⟨(gone.tmod ((ms.length : Nat) : Int)).toNat, by omega⟩
    rw [hk]
    exact stable_at hl hr h2 (by omega)

/-! ### what a node keeps, what moves -/
def selP (p : Nat → Bool) (k : Nat) : List Nat := (List.range k).filter p
theorem selP_succ (p : Nat → Bool) (k : Nat) : selP p (k + 1) = selP p k ++ (bif p k then [k] else []) := by
  unfold selP
  rw [List.range_succ, List.filter_append]
  cases h : p k <;> simp [List.filter, h]
theorem selP_len (p : Nat → Bool) (k : Nat) : (selP p k).length ≤ k := by
  unfold selP
  exact Nat.le_trans (List.length_filter_le _ _) (by simp)
def ownsS (ms : List Int) (node n : Int) : List Int := (selP (fun p => inM (listS ms ((p : Nat) : Int) n) node) 8).map (fun p => ((p : Nat) : Int))
theorem e_Owns {ms : List Int} (hl : ms.length ≤ lim) (node n : Int) : m_ring_Owns ms node n = some (ownsS ms node n) := by
  unfold m_ring_Owns
  refine forU_inv (fun i s => some (ownsS ms node n)) (fun i s => s = (selP (fun p => inM (listS ms ((p : Nat) : Int) n) node) i).map (fun p => ((p : Nat) : Int))) (fun s hs => by rw [hs]; rfl) (fun f i s hi hs hf => ?_) rfl
  unfold m_ring_Owns_b4 m_ring_Owns_j5
  rw [e_List hl, Option.bind_some, e_Contains, Option.bind_some]
  have hsl : s.length ≤ 8 := by rw [hs, List.length_map]; exact Nat.le_trans (selP_len _ _) (by omega)
  have hnext := hf _ rfl
  rw [selP_succ, List.map_append, ← hs] at hnext
  cases hb : inM (listS ms ((i : Nat) : Int) n) node
  · rw [hb] at hnext; simpa using hnext
  · rw [hb] at hnext
    rw [cond_true, chk_t (by rw [decide_eq_true_eq, lim_eq]; omega)]; simpa using hnext
theorem e_rOwns {ms : List Int} (hl : ms.length ≤ lim) (node n : Int) : m_firthref12_Owns ms node n = some (ownsS ms node n) := by
  unfold m_firthref12_Owns
  refine forU_inv (fun i s => some (ownsS ms node n)) (fun i s => s = (selP (fun p => inM (listS ms ((p : Nat) : Int) n) node) i).map (fun p => ((p : Nat) : Int))) (fun s hs => by rw [hs]; rfl) (fun f i s hi hs hf => ?_) rfl
  unfold m_firthref12_Owns_b4 m_firthref12_Owns_j5
  rw [e_rList hl, Option.bind_some, e_In, Option.bind_some]
  have hsl : s.length ≤ 8 := by rw [hs, List.length_map]; exact Nat.le_trans (selP_len _ _) (by omega)
  have hnext := hf _ rfl
  rw [selP_succ, List.map_append, ← hs] at hnext
  cases hb : inM (listS ms ((i : Nat) : Int) n) node
  · rw [hb] at hnext; simpa using hnext
  · rw [hb] at hnext
    rw [cond_true, chk_t (by rw [decide_eq_true_eq, lim_eq]; omega)]; simpa using hnext
def mvB (old new : List Int) (n : Int) (p : Nat) : Bool := (rgtB old && rgtB new) && !(decide (listS old ((p : Nat) : Int) n = listS new ((p : Nat) : Int) n))
def mvE (old new : List Int) (n : Int) (p : Nat) : Dring_Move := ⟨((p : Nat) : Int), listS old ((p : Nat) : Int) n, listS new ((p : Nat) : Int) n⟩
def movesS (old new : List Int) (n : Int) (k : Nat) : List Dring_Move := (selP (mvB old new n) k).map (mvE old new n)
theorem e_Moves {old new : List Int} (ho : old.length ≤ lim) (hn : new.length ≤ lim) (n : Int) : m_ring_Moves old new n = some (movesS old new n 8) := by
  unfold m_ring_Moves
  refine forU_inv (fun i s => some (movesS old new n 8)) (fun i s => s = movesS old new n i) (fun s hs => by rw [hs]) (fun f i s hi hs hf => ?_) rfl
  unfold m_ring_Moves_b4 m_ring_Moves_j5
  rw [e_List ho, e_List hn, e_Right ho, e_Right hn]
  simp only [Option.bind_some, gcall_s, e_Equal]
  show (bif ((rgtB old && (bif rgtB old then rgtB new else default)) && !(bif (rgtB old && (bif rgtB old then rgtB new else default)) then decide (listS old ((i : Nat) : Int) n = listS new ((i : Nat) : Int) n) else default)) then _ else _) = _
  have hsl : s.length ≤ 8 := by rw [hs]; unfold movesS; rw [List.length_map]; exact Nat.le_trans (selP_len _ _) (by omega)
  have hnext := hf (movesS old new n (i + 1)) rfl
  have hsucc : movesS old new n (i + 1) = movesS old new n i ++ (bif mvB old new n i then [mvE old new n i] else []) := by
    unfold movesS
    rw [selP_succ, List.map_append]
    cases mvB old new n i <;> rfl
  rw [hsucc, ← hs] at hnext
  have hcond : ((rgtB old && (bif rgtB old then rgtB new else default)) && !(bif (rgtB old && (bif rgtB old then rgtB new else default)) then decide (listS old ((i : Nat) : Int) n = listS new ((i : Nat) : Int) n) else default)) = mvB old new n i := by
    unfold mvB
    cases rgtB old <;> cases rgtB new <;> rfl
  rw [hcond]
  cases hb : mvB old new n i
  · rw [hb] at hnext; simpa using hnext
  · rw [hb] at hnext
    rw [cond_true, chk_t (by rw [decide_eq_true_eq, lim_eq]; omega)]; exact hnext
theorem moves_succ (old new : List Int) (n : Int) (i : Nat) : movesS old new n (i + 1) = movesS old new n i ++ (bif mvB old new n i then [mvE old new n i] else []) := by
  unfold movesS
  rw [selP_succ, List.map_append]
  cases mvB old new n i <;> rfl
theorem moves_pre (old new : List Int) (n : Int) : ∀ {i k : Nat}, i ≤ k → ∃ r, movesS old new n k = movesS old new n i ++ r := by
  intro i k h
  induction k with
  | zero => obtain rfl : i = 0 := by omega
            exact ⟨[], by simp⟩
  | succ k ih =>
    by_cases e : i = k + 1
    · subst e; exact ⟨[], by simp⟩
    · obtain ⟨r, hr⟩ := ih (by omega)
      rw [moves_succ, hr, List.append_assoc]; exact ⟨_, rfl⟩
theorem owns_law {old fresh : List Int} (ho : old.length ≤ lim) (hfr : fresh.length ≤ lim) (n : Int) : m_firthlaw12_RingOwns old fresh n = some true := by
  unfold m_firthlaw12_RingOwns
  rw [e_awake, Option.bind_some]
  show loopN (m_firthlaw12_RingOwns_b1 old fresh n) FU (-1) = some true
  refine loopN_inv (fun _ => some true) (fun s => -1 ≤ s ∧ s ≤ 10) (fun s => (10 - s).toNat) (fun f s hs hf => ?_) (by omega) (by unfold FU; omega)
  unfold m_firthlaw12_RingOwns_b1
  by_cases h10 : s < 10
  · rw [decide_eq_true h10, cond_true, e_Owns ho, e_rOwns ho, Option.bind_some, Option.bind_some, e_Ints, Option.bind_some, decide_eq_true rfl, w64_i (by unfold I64; omega)]
    exact hf _ (by omega) (by omega)
  · rw [decide_eq_false h10, cond_false, e_Moves ho hfr, Option.bind_some]
    have hml : ∀ k, k ≤ 8 → (movesS old fresh n k).length ≤ 8 := fun k hk => by unfold movesS; rw [List.length_map]; exact Nat.le_trans (selP_len _ _) hk
    refine forU_inv (fun _ _ => some true) (fun i s => s = (((movesS old fresh n i).length : Nat) : Int)) (fun s hs => by rw [hs]; simp) (fun g i s hi hs hg => ?_) rfl
    subst hs
    have hnext := hg (((movesS old fresh n (i + 1)).length : Nat) : Int) rfl
    rw [moves_succ, List.length_append] at hnext
    have hm1 := hml i (by omega)
    unfold m_firthlaw12_RingOwns_b6 m_firthlaw12_RingOwns_j7
    rw [e_rList ho, e_rList hfr, e_rRight ho, e_rRight hfr]
    simp only [Option.bind_some, gcall_s, e_Ints]
    have hcond : (((!(rgtB old)) || (!(bif !(!(rgtB old)) then rgtB fresh else default))) || (bif !((!(rgtB old)) || (!(bif !(!(rgtB old)) then rgtB fresh else default))) then decide (listS old ((i : Nat) : Int) n = listS fresh ((i : Nat) : Int) n) else default)) = !(mvB old fresh n i) := by
      unfold mvB
      cases rgtB old <;> cases rgtB fresh <;> simp
    show (bif (((!(rgtB old)) || (!(bif !(!(rgtB old)) then rgtB fresh else default))) || (bif !((!(rgtB old)) || (!(bif !(!(rgtB old)) then rgtB fresh else default))) then decide (listS old ((i : Nat) : Int) n = listS fresh ((i : Nat) : Int) n) else default)) then _ else _) = _
    rw [hcond]
    cases hb : mvB old fresh n i
    · rw [hb] at hnext; simpa using hnext
    · rw [hb] at hnext
      obtain ⟨r, hr⟩ := moves_pre old fresh n (i := i + 1) (k := 8) (by omega)
      rw [moves_succ old fresh n i, hb, cond_true, List.append_assoc] at hr
      have hlt : (movesS old fresh n i).length < (movesS old fresh n 8).length := by rw [hr]; simp
      have hget : gt (movesS old fresh n 8) (movesS old fresh n i).length = mvE old fresh n i := by
        rw [hr, gt_append_right (Nat.le_refl _), Nat.sub_self]; rfl
      have e1 : decide ((((movesS old fresh n 8).length : Nat) : Int) ≤ (((movesS old fresh n i).length : Nat) : Int)) = false := by rw [decide_eq_false_iff_not]; omega
      have hin : inb (((movesS old fresh n i).length : Nat) : Int) (movesS old fresh n 8).length = true := by unfold inb; rw [Bool.and_eq_true, decide_eq_true_eq, decide_eq_true_eq]; omega
      rw [e1, Int.toNat_natCast, hget, hin]
      have e2 : ((mvE old fresh n i).part != ((i : Nat) : Int)) = false := by simp [mvE]
      have e3 : decide ((mvE old fresh n i).old = listS old ((i : Nat) : Int) n) = true := by simp [mvE]
      have e4 : decide ((mvE old fresh n i).new = listS fresh ((i : Nat) : Int) n) = true := by simp [mvE]
      rw [e2, e3, e4]
      rw [w64_i (by unfold I64; omega)]
      exact hnext
end Fw
end Go.Proofs.Ytdhenoidmialaaa
