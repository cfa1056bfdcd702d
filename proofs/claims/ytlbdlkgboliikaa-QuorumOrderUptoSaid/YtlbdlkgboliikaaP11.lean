/- The plain law QuorumMeets. No condition. -/
import Derived.Test.YtlbdlkgboliikaaP10
namespace Go.Proofs.Ytlbdlkgboliikaa
namespace Fw
set_option linter.unusedVariables false
set_option linter.unusedSimpArgs false
set_option linter.unusedSectionVars false

theorem two_meet {l : List Int} (p q : Int → Bool) (h : l.length < (l.filter p).length + (l.filter q).length) : ∃ x ∈ l, p x = true ∧ q x = true := by
  induction l with
  | nil => simp at h
  | cons x l ih =>
    by_cases hb : p x = true ∧ q x = true
    · exact ⟨x, List.mem_cons_self, hb⟩
    · have : l.length < (l.filter p).length + (l.filter q).length := by
        simp only [List.filter_cons, List.length_cons] at h
        cases h1 : p x <;> cases h2 : q x <;> simp [h1, h2] at h hb <;> omega
      obtain ⟨y, hy, h2⟩ := ih this
      exact ⟨y, List.mem_cons_of_mem _ hy, h2⟩
theorem e_has (l : List Ver) (v : Ver) : m_firthlaw16_has l v = some (l.any (fun x => r5SameOne x v)) := by
  unfold m_firthlaw16_has
  refine forI_inv (fun i _ => some ((l.drop i).any (fun x => r5SameOne x v))) (fun _ _ => True) (fun s _ => ?_) (fun f i s hi _ hf => ?_) trivial
  · rw [List.drop_of_length_le (Nat.le_refl _)]; rfl
  · unfold m_firthlaw16_has_b1
    rw [hf () trivial, drop_gt hi, List.any_cons, e_SameOne, Option.bind_some]
    cases r5SameOne (gt l i) v <;> rfl
theorem of_ok {U l : List Ver} (hU : ∀ v ∈ U, VerOk v) (h : Of U l) : VersOk l := by
  obtain ⟨h1, _, _⟩ := right_iff h.r
  exact ⟨by rw [lim_eq]; omega, fun v hv => hU v (h.s v hv)⟩
theorem of_one {U : List Ver} (hU : Made U) {v : Ver} (h : v ∈ U) (hr : r5RightOne v = true) : Of U [v] := by
  refine ⟨right_of (by simp) (fun x hx => ?_) (by simp [Srt]), fun x hx => by rw [List.mem_singleton.1 hx]; exact h⟩
  rw [List.mem_singleton.1 hx]
  refine ⟨hr, ?_⟩
  rw [behind_f]
  intro z hz
  rw [List.mem_singleton.1 hz]
  cases hb : r3Has v.past v.dot with
  | false => rfl
  | true => have := (hU.lt v h v h hb).1; rw [hb] at this; exact this
section
variable {U : List Ver} (hU : Made U) (hn : U.length ≤ 512) {v : Ver} (hov : Of U [v]) {list : List Int} (hnd : list.Nodup)
/-- what has been taken -/
structure AckI (U : List Ver) (v : Ver) (list : List Int) (need : Int) (held : List (List Ver)) (x : AskB) : Prop where
  l : x.list = list
  n : x.need = need
  g : x.got.length = (list.filter (fun n => (mget n x.got).isSome)).length
  m : ∀ n, (mget n x.got).isSome = true → Cov (gt held n.toNat) v
  hl : held.length = 9
  h : ∀ j, Of U (gt held j)
/-- what has been asked -/
structure AskedI (list : List Int) (need : Int) (held : List (List Ver)) (x : AskV) : Prop where
  l : x.list = list
  n : x.need = need
  g : x.got.length = (list.filter (fun n => (mget n x.got).isSome)).length
  m : ∀ n u, mget n x.got = some u → n ∈ list ∧ u = gt held n.toNat
include hU hn hov hnd in
theorem AckI.step {need : Int} {held : List (List Ver)} {x : AskB} (h : AckI U v list need held x) {node : Int} (h9 : node.toNat < 9) :
    (r5Merge (gt held node.toNat) [v]).2 = 0 ∧ AckI U v list need (held.set node.toNat (r5Merge (gt held node.toNat) [v]).1) (AskB.count x node true).1 := by
  obtain ⟨h1, h2, _, h4⟩ := merge_of hU hn (h.h node.toNat) hov
  have hcv : Cov (r5Merge (gt held node.toNat) [v]).1 v := cov_mem hU hov (h.h node.toNat) (fun y => by rw [h4 y, Or.comm, and_congr_right_iff]; intro _; exact And.comm) (List.mem_singleton.2 rfl)
  refine ⟨h1, ?_⟩
  have hh : ∀ j, Of U (gt (held.set node.toNat (r5Merge (gt held node.toNat) [v]).1) j) := fun j => by
    rw [gt_set (by rw [h.hl]; exact h9)]
    split
    · exact h2
    · exact h.h j
  have hl : (held.set node.toNat (r5Merge (gt held node.toNat) [v]).1).length = 9 := by rw [List.length_set]; exact h.hl
  have hold : ∀ n, (mget n x.got).isSome = true → Cov (gt (held.set node.toNat (r5Merge (gt held node.toNat) [v]).1) n.toNat) v := fun n hn' => by
    rw [gt_set (by rw [h.hl]; exact h9)]
    split
    · exact hcv
    · exact h.m n hn'
  unfold AskB.count
  cases hc : ((mget node x.got).isSome || (!(decide (0 ≤ idxGo x.list node 0)))) with
  | true => exact ⟨h.l, h.n, h.g, hold, hl, hh⟩
  | false =>
    rw [h.l, idxGo_inM, Bool.or_eq_false_iff, Bool.not_eq_false'] at hc
    have hno : mget node x.got = none := by simpa using hc.1
    have hm := inM_mem.1 hc.2
    obtain ⟨k, hk, hke⟩ := mem_gt hm
    refine ⟨h.l, h.n, (RelG.put (in_ := list.map (fun n => (mget n x.got).isSome)) ⟨hnd, rfl, h.g⟩ true hk hke hno hm).g, fun n hs => ?_, hl, hh⟩
    rw [cond_false] at hs
    have hs' : (mget n (mput node true x.got)).isSome = true := hs
    rw [mput_isSome, Bool.or_eq_true, decide_eq_true_eq] at hs'
    rcases hs' with e | e
    · subst e
      rw [gt_set (by rw [h.hl]; exact h9), if_pos rfl]; exact hcv
    · exact hold n e
include hnd in
theorem AskedI.step {need : Int} {held : List (List Ver)} {x : AskV} (hh : ∀ j, Of U (gt held j)) (h : AskedI list need held x) (node : Int) :
    AskedI list need held (AskV.gotv x node (gt held node.toNat)).1 := by
  rw [gotv_eq _ _ (hh _).r]
  unfold AskV.count
  cases hc : ((mget node x.got).isSome || (!(decide (0 ≤ idxGo x.list node 0)))) with
  | true => exact h
  | false =>
    rw [h.l, idxGo_inM, Bool.or_eq_false_iff, Bool.not_eq_false'] at hc
    have hno : mget node x.got = none := by simpa using hc.1
    have hm := inM_mem.1 hc.2
    obtain ⟨k, hk, hke⟩ := mem_gt hm
    refine ⟨h.l, h.n, (RelG.put (in_ := list.map (fun n => (mget n x.got).isSome)) ⟨hnd, rfl, h.g⟩ (gt held node.toNat) hk hke hno hm).g, fun n u hs => ?_⟩
    rw [cond_false] at hs
    have hs' : mget n (mput node (gt held node.toNat) x.got) = some u := hs
    rw [mget_mput] at hs'
    by_cases e : n = node
    · rw [if_pos e] at hs'
      injection hs' with hs'
      rw [e]; exact ⟨hm, hs'.symm⟩
    · rw [if_neg e] at hs'
      exact h.m n u hs'
theorem AskedI.of {need : Int} {held : List (List Ver)} {x : AskV} (hh : ∀ j, Of U (gt held j)) (h : AskedI list need held x) (n : Int) : Of U ((mget n x.got).getD []) := by
  cases hg : mget n x.got with
  | none => exact of_nil U
  | some u => rw [(h.m n u hg).2]; exact hh _
include hU hn in
/-- who was asked holds, behind it, what was told -/
theorem AskedI.put {need : Int} {held : List (List Ver)} {x : AskV} (hh : ∀ j, Of U (gt held j)) (h : AskedI list need held x) {n : Int} (hi : (mget n x.got).isSome = true) :
    n ∈ list ∧ (mget n x.got).getD [] = gt held n.toNat ∧ (∀ y ∈ gt held n.toNat, Cov (AskV.vers x) y) ∧ r5Merge (gt held n.toNat) (AskV.vers x) = (AskV.vers x, 0) := by
  obtain ⟨u, hu⟩ := Option.isSome_iff_exists.1 hi
  obtain ⟨hm, he⟩ := h.m n u hu
  have hgd : (mget n x.got).getD [] = gt held n.toNat := by rw [hu]; exact he
  obtain ⟨i1, i2, i3, i4⟩ := vgo_of hU hn (fun n => h.of hh n) x.list [] (of_nil U)
  have hcov : ∀ y ∈ gt held n.toNat, Cov (AskV.vers x) y := fun y hy => i3 n (h.l ▸ hm) y (hgd ▸ hy)
  refine ⟨hm, hgd, hcov, ?_⟩
  obtain ⟨j1, j2, j3, j4⟩ := merge_of hU hn (hh n.toNat) i1
  refine Prod.ext ?_ j1
  have hs : Srt (AskV.vers x) := (right_iff i1.r).2.2
  have hself := fun y hy => ((right_iff i1.r).2.1 y hy).2
  refine srt_ext j3 hs fun y => (j4 y).trans ?_
  constructor
  · rintro ⟨h1 | h1, h2, h3⟩
    · rcases hcov y h1 with h4 | h4
      · exact h4
      · have h5 : r5Behind (AskV.vers x) y.dot = false := h3
        rw [h4] at h5; cases h5
    · exact h1
  · intro hy
    exact ⟨.inr hy, not_behind hU (hh n.toNat).s i1.s hcov (hself y hy), hself y hy⟩
end
/-! ### the numbers up to N, what they hold -/
def upN (k : Nat) : List Int := (List.range k).map (fun j => ((j + 1 : Nat) : Int))
theorem upN_len (k : Nat) : (upN k).length = k := by simp [upN]
theorem upN_succ (k : Nat) : upN (k + 1) = upN k ++ [((k + 1 : Nat) : Int)] := by simp [upN, List.range_succ]
theorem upN_mem {k : Nat} {x : Int} : x ∈ upN k ↔ 1 ≤ x ∧ x ≤ (k : Int) := by
  unfold upN
  rw [List.mem_map]
  constructor
  · rintro ⟨j, hj, rfl⟩
    have := List.mem_range.1 hj; omega
  · rintro ⟨h1, h2⟩
    exact ⟨x.toNat - 1, List.mem_range.2 (by omega), by omega⟩
theorem upN_gt {k i : Nat} (h : i < k) : gt (upN k) i = ((i + 1 : Nat) : Int) := by
  rw [gt_eq (by rw [upN_len]; exact h)]; simp [upN]
theorem upN_take (k i : Nat) (h : i ≤ k) : (upN k).take i = upN i := by
  unfold upN
  rw [← List.map_take, List.take_range, Nat.min_eq_left h]
theorem qOk_up {k : Nat} {need : Int} (h1 : 1 ≤ k) (h8 : k ≤ 8) (hn1 : 1 ≤ need) (hn : need ≤ (k : Int)) : qOk (upN k) need = true := by
  unfold qOk
  have hb : qBad (upN k) need = false := by
    unfold qBad
    rw [upN_len]
    simp only [Bool.or_eq_false_iff, decide_eq_false_iff_not]; omega
  rw [hb, cond_false, all0_iff, upN_len]
  intro i hi
  rw [upN_gt hi, upN_take k i (by omega), idxGo_inM]
  have : inM (upN i) ((i + 1 : Nat) : Int) = false := by
    cases hh : inM (upN i) ((i + 1 : Nat) : Int) with
    | false => rfl
    | true => have := upN_mem.1 (inM_mem.1 hh); omega
  rw [this]
  simp only [Bool.not_eq_true', Bool.or_eq_false_iff, decide_eq_false_iff_not, and_true]; omega
def hold (old : List (List Ver)) (j : Nat) : List Ver := bif (decide (j - 1 < old.length)) && r5Right (gt old (j - 1)) then gt old (j - 1) else []
theorem hold_right (old : List (List Ver)) (j : Nat) : r5Right (hold old j) = true := by
  unfold hold
  cases h : (decide (j - 1 < old.length)) && r5Right (gt old (j - 1))
  · rfl
  · exact and_r h
theorem hold_ok {old : List (List Ver)} (h : ∀ l ∈ old, VersOk l) (j : Nat) : VersOk (hold old j) := by
  unfold hold
  cases hb : (decide (j - 1 < old.length)) && r5Right (gt old (j - 1))
  · exact versOk_nil
  · exact h _ (gt_mem (of_decide_eq_true (and_l hb)))
def heldK (old : List (List Ver)) (k : Nat) : List (List Ver) := (List.range 9).map (fun j => if 1 ≤ j ∧ j ≤ k then hold old j else [])
theorem heldK_gt (old : List (List Ver)) (k j : Nat) : gt (heldK old k) j = if 1 ≤ j ∧ j ≤ k ∧ j < 9 then hold old j else [] := by
  unfold heldK
  by_cases h : j < 9
  · rw [gt_eq (by simpa using h)]
    simp [h]
  · unfold gt
    rw [List.getD_eq_getElem?_getD, List.getElem?_eq_none (by simp; omega)]
    rw [if_neg (by omega)]; rfl
theorem heldK_succ (old : List (List Ver)) {k : Nat} (h : k < 8) : (heldK old k).set (k + 1) (hold old (k + 1)) = heldK old (k + 1) := by
  unfold heldK
  apply List.ext_getElem
  · simp
  · intro j h1 h2
    rw [List.getElem_set]
    simp only [List.getElem_map, List.getElem_range]
    split
    · rename_i e; subst e
      rw [if_pos (by omega)]
    · rename_i e
      by_cases hj : 1 ≤ j ∧ j ≤ k
      · rw [if_pos hj, if_pos (by omega)]
      · rw [if_neg hj, if_neg (by omega)]
theorem heldK_same (old : List (List Ver)) {k : Nat} (h : hold old (k + 1) = []) : heldK old (k + 1) = heldK old k := by
  unfold heldK
  refine List.map_congr_left fun j _ => ?_
  by_cases e : j = k + 1
  · subst e
    rw [if_pos (by omega), if_neg (by omega), h]
  · by_cases hj : 1 ≤ j ∧ j ≤ k
    · rw [if_pos hj, if_pos (by omega)]
    · rw [if_neg hj, if_neg (by omega)]
def allK (old : List (List Ver)) (v : Ver) (k : Nat) : List Dfirthlaw16_Reply := ⟨0, [v], []⟩ :: (List.range k).map (fun j => (⟨0, hold old (j + 1), []⟩ : Dfirthlaw16_Reply))
theorem allK_succ (old : List (List Ver)) (v : Ver) (k : Nat) : allK old v (k + 1) = allK old v k ++ [⟨0, hold old (k + 1), []⟩] := by simp [allK, List.range_succ]
theorem allK_len (old : List (List Ver)) (v : Ver) (k : Nat) : (allK old v k).length = k + 1 := by simp [allK]
theorem allK_hold {old : List (List Ver)} {v : Ver} {k j : Nat} (h1 : 1 ≤ j) (hk : j ≤ k) : ∀ y ∈ hold old j, y ∈ versOf (allK old v k) := by
  intro y hy
  unfold versOf
  rw [List.mem_flatMap]
  refine ⟨⟨0, hold old j, []⟩, ?_, hy⟩
  refine List.mem_cons_of_mem _ (List.mem_map.2 ⟨j - 1, List.mem_range.2 (by omega), ?_⟩)
  rw [Nat.sub_add_cancel h1]
theorem allK_vers {old : List (List Ver)} {v : Ver} {k : Nat} {q : Dfirthlaw16_Reply} (h : q ∈ allK old v k) : q.vers = [v] ∨ ∃ j, q.vers = hold old j := by
  rcases List.mem_cons.1 h with h | h
  · left; rw [h]
  · obtain ⟨j, _, rfl⟩ := List.mem_map.1 h
    exact .inr ⟨_, rfl⟩
theorem versOf_small {l : List Dfirthlaw16_Reply} (h : ∀ q ∈ l, q.vers.length ≤ 512) : (versOf l).length ≤ 512 * l.length := by
  induction l with
  | nil => simp [versOf]
  | cons q l ih =>
    have h1 := h q List.mem_cons_self
    have h2 := ih fun q hq => h q (List.mem_cons_of_mem _ hq)
    simp only [versOf, List.flatMap_cons, List.length_append, List.length_cons] at *
    omega
end Fw
end Go.Proofs.Ytlbdlkgboliikaa
