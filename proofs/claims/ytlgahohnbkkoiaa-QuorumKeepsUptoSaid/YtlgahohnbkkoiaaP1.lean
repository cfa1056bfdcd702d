/- What merging and taking come to, as the printed models say it. No condition. -/
import Derived.Test.YtlgahohnbkkoiaaM
namespace Go.Proofs.Ytlgahohnbkkoiaa
namespace Fw
set_option linter.unusedVariables false
set_option linter.unusedSimpArgs false
set_option linter.unusedSectionVars false
def allFrom (p : Nat → Bool) (k n : Nat) : Bool := (List.range' k (n - k)).all p
def anyFrom (p : Nat → Bool) (k n : Nat) : Bool := (List.range' k (n - k)).any p
theorem allFrom_step {p : Nat → Bool} {k n : Nat} (h : k < n) : allFrom p k n = (p k && allFrom p (k + 1) n) := by
  unfold allFrom
  rw [show n - k = (n - (k + 1)) + 1 by omega, List.range'_succ]; rfl
theorem allFrom_end {p : Nat → Bool} {k n : Nat} (h : n ≤ k) : allFrom p k n = true := by
  unfold allFrom
  rw [show n - k = 0 by omega]; rfl
def spHas : List Span → Dot → Bool
  | [], _ => false
  | x :: l, d => ((x.s == d.s) && decide (x.f ≤ d.n)) && decide (d.n ≤ x.t) || spHas l d
def r3Has : List Span → Dot → Bool
  | [], _ => false
  | x :: l, d => ((x.s == d.s) && decide (x.f ≤ d.n)) && decide (d.n ≤ x.t) || r3Has l d
def spBad (x last : Span) : Bool :=
  ((((((decide (x.s < 1) || decide (16 < x.s)) || decide (x.f < 1)) || decide (x.t < x.f)) || decide (4611686018427387904 < x.t)) || decide (x.s < last.s)) || ((x.s == last.s) && decide (x.f ≤ (last.t + 1))))
def spGo : List Span → Span → Bool
  | [], _ => true
  | x :: l, last => bif spBad x last then false else spGo l x
def spRight (l : List Span) : Bool := spGo l ⟨0, 0, 0⟩ && decide ((l.length : Int) ≤ 1024)
def spTopGo : List Span → Int → Int → Int
  | [], _, top => top
  | x :: l, s, top => spTopGo l s (bif x.s == s then max top x.t else top)
def spTop (l : List Span) (s : Int) : Int := spTopGo l s 0
def r3Dot (d : Dot) : Bool := (((decide (1 ≤ d.s) && decide (d.s ≤ 16)) && decide (1 ≤ d.n)) && decide (d.n ≤ 4611686018427387904))
theorem r3Dot_t {d : Dot} (h : r3Dot d = true) : 1 ≤ d.s ∧ d.s ≤ 16 ∧ 1 ≤ d.n ∧ d.n ≤ 4611686018427387904 := by simp [r3Dot] at h; omega
def r3One (x : Span) : Bool := (((!(r3Dot ⟨x.s, x.f⟩)) || (!(r3Dot ⟨x.s, x.t⟩))) || decide (x.t < x.f))
def r3Two (p x : Span) : Bool := (decide (x.s < p.s) || ((x.s == p.s) && decide ((x.f - 1) ≤ p.t)))
def r3Right (l : List Span) : Bool := bif decide (1024 < l.length) then false else allFrom (fun i => !(r3One (gt l i)) && !(decide (0 < (i : Int)) && r3Two (gt l (i - 1)) (gt l i))) 0 l.length
def r3TopGo : List Span → Int → Int → Int
  | [], _, n => n
  | x :: l, s, n => r3TopGo l s (bif (x.s == s) && decide (n < x.t) then x.t else n)
def r3Top (l : List Span) (s : Int) : Int := r3TopGo l s 0
def r3Same (a b : List Span) : Bool := bif a.length == b.length then allFrom (fun i => gt a i == gt b i) 0 a.length else false
def r5Less (a b : Dot) : Bool := bif a.s != b.s then decide (a.s < b.s) else decide (a.n < b.n)
def r5RightOne (v : Ver) : Bool := bif (((!(r3Dot v.dot)) || (!(r3Right v.past))) || decide (v.dot.n ≤ r3Top v.past v.dot.s)) then false else bif v.gone then v.val == ⟨#[]⟩ else decide ((v.val.size : Int) ≤ 256)
def r5Behind : List Ver → Dot → Bool
  | [], _ => false
  | v :: l, d => r3Has v.past d || r5Behind l d
def r5Right (l : List Ver) : Bool := bif decide (512 < l.length) then false else allFrom (fun i => !((!(r5RightOne (gt l i))) || r5Behind l (gt l i).dot) && !(decide (0 < (i : Int)) && !(r5Less (gt l (i - 1)).dot (gt l i).dot))) 0 l.length
def r5SameOne (a b : Ver) : Bool := (((a.dot == b.dot) && (a.gone == b.gone)) && (a.val == b.val)) && r3Same a.past b.past
def r5Same (a b : List Ver) : Bool := bif a.length == b.length then allFrom (fun i => r5SameOne (gt a i) (gt b i)) 0 a.length else false
def vsBefore (a b : Dot) : Bool := (decide (a.s < b.s) || ((a.s == b.s) && decide (a.n < b.n)))
def vsBehind : Dot → List Ver → Bool
  | _, [] => false
  | d, v :: l => spHas v.past d || vsBehind d l
def vsSame (a b : Ver) : Bool := bif ((((a.dot != b.dot) || (a.gone != b.gone)) || (a.val != b.val)) || ((a.past.length : Int) != (b.past.length : Int))) then false else allFrom (fun i => !(gt a.past i != gt b.past i)) 0 a.past.length
def vsRightOne (v : Ver) : Bool := (((((spRight [⟨v.dot.s, v.dot.n, v.dot.n⟩]) && (spRight v.past)) && decide (spTop v.past v.dot.s < v.dot.n)) && decide ((v.val.size : Int) ≤ 256)) && ((!v.gone) || (v.val == ⟨#[]⟩)))
def vsRight (l : List Ver) : Bool := allFrom (fun i => !(((!(vsRightOne (gt l i))) || (decide (0 < (i : Int)) && (!(vsBefore (gt l (i - 1)).dot (gt l i).dot)))) || vsBehind (gt l i).dot l)) 0 l.length && decide ((l.length : Int) ≤ 512)
def vsKeep (v : Ver) (a b out : List Ver) : List Ver := bif ((!(vsBehind v.dot a)) && (!(vsBehind v.dot b))) then out ++ [v] else out
def vsGo (A B : List Ver) : Nat → List Ver → List Ver → Bool → List Ver → Bool × List Ver
  | 0, _, _, tw, out => (tw, out)
  | _ + 1, [], [], tw, out => (tw, out)
  | n + 1, [], y :: b, tw, out => vsGo A B n [] b tw (vsKeep y A B out)
  | n + 1, x :: a, [], tw, out => vsGo A B n a [] tw (vsKeep x A B out)
  | n + 1, x :: a, y :: b, tw, out => bif vsBefore x.dot y.dot then vsGo A B n a (y :: b) tw (vsKeep x A B out) else
      bif x.dot == y.dot then vsGo A B n a (y :: b) (tw || (!(vsSame x y))) out else vsGo A B n (x :: a) b tw (vsKeep y A B out)
theorem vsGo_a {A B a b : List Ver} {i k : Nat} {tw : Bool} {out : List Ver} (hi : i < a.length) (hk : k ≤ b.length) (hc : ((((k : Nat) : Int) == ((b.length : Nat) : Int)) || (decide (((i : Nat) : Int) < ((a.length : Nat) : Int)) && (vsBefore (gt a i).dot (gt b k).dot))) = true) :
    vsGo A B ((a.length - i) + (b.length - k)) (a.drop i) (b.drop k) tw out = vsGo A B ((a.length - (i + 1)) + (b.length - k)) (a.drop (i + 1)) (b.drop k) tw (vsKeep (gt a i) A B out) := by
  rw [show (a.length - i) + (b.length - k) = ((a.length - (i + 1)) + (b.length - k)) + 1 by omega, drop_gt hi]
  by_cases hkb : k < b.length
  · have h1 : (((k : Nat) : Int) == ((b.length : Nat) : Int)) = false := by simp; omega
    have h2 : decide (((i : Nat) : Int) < ((a.length : Nat) : Int)) = true := by simp; omega
    rw [h1, h2] at hc
    simp only [Bool.false_or, Bool.true_and] at hc
    rw [drop_gt hkb]
    simp only [vsGo, hc, cond_true]
  · rw [List.drop_of_length_le (Nat.le_of_not_lt hkb)]
    simp only [vsGo]
theorem vsGo_t {A B a b : List Ver} {i k : Nat} {tw : Bool} {out : List Ver} (hi : i < a.length) (hk : k < b.length) (hc : ((((k : Nat) : Int) == ((b.length : Nat) : Int)) || (decide (((i : Nat) : Int) < ((a.length : Nat) : Int)) && (vsBefore (gt a i).dot (gt b k).dot))) = false) (he : ((gt a i).dot == (gt b k).dot) = true) :
    vsGo A B ((a.length - i) + (b.length - k)) (a.drop i) (b.drop k) tw out = vsGo A B ((a.length - (i + 1)) + (b.length - k)) (a.drop (i + 1)) (b.drop k) (tw || (!(vsSame (gt a i) (gt b k)))) out := by
  rw [show (a.length - i) + (b.length - k) = ((a.length - (i + 1)) + (b.length - k)) + 1 by omega, drop_gt hi, drop_gt hk]
  have h2 : decide (((i : Nat) : Int) < ((a.length : Nat) : Int)) = true := by simp; omega
  have h1 := or_r hc
  rw [h2, Bool.true_and] at h1
  simp only [vsGo, h1, he, cond_false, cond_true]
theorem vsGo_b {A B a b : List Ver} {i k : Nat} {tw : Bool} {out : List Ver} (hi : i ≤ a.length) (hk : k < b.length) (hc : ((((k : Nat) : Int) == ((b.length : Nat) : Int)) || (decide (((i : Nat) : Int) < ((a.length : Nat) : Int)) && (vsBefore (gt a i).dot (gt b k).dot))) = false)
    (he : (decide (((i : Nat) : Int) < ((a.length : Nat) : Int)) && ((gt a i).dot == (gt b k).dot)) = false) :
    vsGo A B ((a.length - i) + (b.length - k)) (a.drop i) (b.drop k) tw out = vsGo A B ((a.length - i) + (b.length - (k + 1))) (a.drop i) (b.drop (k + 1)) tw (vsKeep (gt b k) A B out) := by
  rw [show (a.length - i) + (b.length - k) = ((a.length - i) + (b.length - (k + 1))) + 1 by omega, drop_gt hk]
  by_cases hia : i < a.length
  · have h2 : decide (((i : Nat) : Int) < ((a.length : Nat) : Int)) = true := by simp; omega
    have h1 := or_r hc
    rw [h2, Bool.true_and] at h1 he
    rw [drop_gt hia]
    simp only [vsGo, h1, he, cond_false]
  · rw [List.drop_of_length_le (Nat.le_of_not_lt hia)]
    simp only [vsGo]
def vsMerge (a b : List Ver) : List Ver × Int :=
  bif ((!(vsRight a)) || (!(vsRight b))) then ([], 1) else bif (vsGo a b (a.length + b.length) a b false []).1 then ([], 50) else
  bif decide ((512 : Int) < ((vsGo a b (a.length + b.length) a b false []).2.length : Int)) then ([], 3) else ((vsGo a b (a.length + b.length) a b false []).2, 0)
theorem vsRight_len {l : List Ver} (h : vsRight l = true) : l.length ≤ 512 := by
  unfold vsRight at h
  have := and_r h
  simp at this; omega
theorem vsKeep_len (v : Ver) (a b out : List Ver) : (vsKeep v a b out).length ≤ out.length + 1 := by
  unfold vsKeep
  cases ((!(vsBehind v.dot a)) && (!(vsBehind v.dot b))) <;> simp
def r5AtGo : List Ver → Dot → Nat → Nat
  | [], _, k => k
  | x :: l, d, k => bif r5Less x.dot d then r5AtGo l d (k + 1) else k
theorem r5AtGo_stop {l : List Ver} {d : Dot} {k : Nat} (hk : k ≤ l.length) (h : (decide (((k : Nat) : Int) < ((l.length : Nat) : Int)) && (r5Less (gt l k).dot d)) = false) : r5AtGo (l.drop k) d k = k := by
  by_cases hl : k < l.length
  · rw [drop_gt hl]
    have : r5Less (gt l k).dot d = false := by
      rw [show decide (((k : Nat) : Int) < ((l.length : Nat) : Int)) = true by simp; omega] at h
      simpa using h
    simp [r5AtGo, this]
  · rw [List.drop_of_length_le (by omega)]; rfl
def r5Put (l : List Ver) (v : Ver) : List Ver :=
  bif (decide ((r5AtGo l v.dot 0 : Int) < (l.length : Int)) && ((gt l (r5AtGo l v.dot 0)).dot == v.dot)) then l else (l.take (r5AtGo l v.dot 0) ++ [v]) ++ l.drop (r5AtGo l v.dot 0)
def r5Twin (a b : List Ver) : Bool := anyFrom (fun i => anyFrom (fun k => ((gt a i).dot == (gt b k).dot) && (!(r5SameOne (gt a i) (gt b k)))) 0 b.length) 0 a.length
def r5Fold : List Ver → List Ver → List Ver → List Ver
  | [], _, out => out
  | x :: l, skip, out => r5Fold l skip (bif (!(r5Behind skip x.dot)) then r5Put out x else out)
def r5Merge (a b : List Ver) : List Ver × Int :=
  bif ((!(r5Right a)) || (!(r5Right b))) then ([], 1) else bif r5Twin a b then ([], 50) else
  bif decide ((512 : Int) < ((r5Fold b a (r5Fold a b [])).length : Int)) then ([], 3) else (r5Fold b a (r5Fold a b []), 0)
theorem r5Put_len (l : List Ver) (v : Ver) : (r5Put l v).length ≤ l.length + 1 := by
  unfold r5Put
  cases (decide ((r5AtGo l v.dot 0 : Int) < (l.length : Int)) && ((gt l (r5AtGo l v.dot 0)).dot == v.dot)) <;> simp <;> omega
theorem r5Right_len {l : List Ver} (h : r5Right l = true) : l.length ≤ 512 := by
  unfold r5Right at h
  by_cases hl : 512 < l.length
  · simp [hl] at h
  · omega
def vsSameL (a b : List Ver) : Bool := bif allFrom (fun k => vsSame (gt a k) (gt b k)) 0 (min a.length b.length) then ((a.length : Int) == (b.length : Int)) else false
theorem all0_iff {p : Nat → Bool} {n : Nat} : allFrom p 0 n = true ↔ ∀ i, i < n → p i = true := by
  unfold allFrom
  rw [List.all_eq_true]
  simp only [List.mem_range'_1, Nat.zero_le, true_and, Nat.sub_zero, Nat.zero_add]
theorem any0_iff {p : Nat → Bool} {n : Nat} : anyFrom p 0 n = true ↔ ∃ i, i < n ∧ p i = true := by
  unfold anyFrom
  rw [List.any_eq_true]
  simp only [List.mem_range'_1, Nat.zero_le, true_and, Nat.sub_zero, Nat.zero_add]
theorem allFrom_congr {p q : Nat → Bool} {n : Nat} (h : ∀ i, i < n → p i = q i) : allFrom p 0 n = allFrom q 0 n := by
  rw [Bool.eq_iff_iff, all0_iff, all0_iff]
  exact ⟨fun h1 i hi => (h i hi) ▸ h1 i hi, fun h1 i hi => (h i hi) ▸ h1 i hi⟩
theorem gt_mem {α : Type} [Inhabited α] {l : List α} {i : Nat} (h : i < l.length) : gt l i ∈ l := by rw [gt_eq h]; exact List.getElem_mem h
theorem mem_gt {α : Type} [Inhabited α] {l : List α} {x : α} (h : x ∈ l) : ∃ i, i < l.length ∧ gt l i = x := by
  obtain ⟨i, hi, rfl⟩ := List.getElem_of_mem h
  exact ⟨i, hi, gt_eq hi⟩
theorem less_eq (a b : Dot) : vsBefore a b = r5Less a b := by
  unfold vsBefore r5Less
  by_cases h : a.s = b.s
  · simp [h]
  · have h1 : (a.s != b.s) = true := by simpa using h
    have h2 : (a.s == b.s) = false := by simpa using h
    simp [h1, h2]
theorem has_eq : ∀ (l : List Span) (d : Dot), spHas l d = r3Has l d
  | [], _ => rfl
  | x :: l, d => by rw [spHas, r3Has, has_eq l d]
theorem topGo_eq : ∀ (l : List Span) (s t : Int), spTopGo l s t = r3TopGo l s t
  | [], _, _ => rfl
  | x :: l, s, t => by
    rw [spTopGo, r3TopGo, topGo_eq l]
    congr 1
    by_cases h : x.s = s
    · by_cases h2 : t < x.t
      · simp [h, h2]; omega
      · simp [h, h2]; omega
    · have : (x.s == s) = false := by simpa using h
      simp [this]
theorem top_eq (l : List Span) (s : Int) : spTop l s = r3Top l s := topGo_eq l s 0
theorem behind_eq : ∀ (d : Dot) (l : List Ver), vsBehind d l = r5Behind l d
  | _, [] => rfl
  | d, v :: l => by rw [vsBehind, r5Behind, has_eq, behind_eq d l]
def pchk {α : Type} (p : α → Bool) (q : α → α → Bool) : Option α → List α → Bool
  | _, [] => true
  | none, x :: l => p x && pchk p q (some x) l
  | some y, x :: l => (p x && q y x) && pchk p q (some x) l
theorem allFrom_chk {α : Type} [Inhabited α] (p : α → Bool) (q : α → α → Bool) (l : List α) (f : Nat → Bool) (h0 : 0 < l.length → f 0 = p (gt l 0)) (hs : ∀ i, i + 1 < l.length → f (i + 1) = (p (gt l (i + 1)) && q (gt l i) (gt l (i + 1)))) :
    allFrom f 0 l.length = pchk p q none l := by
  have key : ∀ m k, l.length - (k + 1) = m → allFrom f (k + 1) l.length = pchk p q (some (gt l k)) (l.drop (k + 1)) := by
    intro m
    induction m with
    | zero =>
      intro k hk
      rw [allFrom_end (by omega), List.drop_of_length_le (by omega)]; rfl
    | succ m ih =>
      intro k hk
      rw [allFrom_step (by omega), drop_gt (by omega), pchk, hs k (by omega), ih (k + 1) (by omega)]
  by_cases hl : 0 < l.length
  · have h1 : l = gt l 0 :: l.drop 1 := by have := drop_gt hl; simpa using this
    rw [allFrom_step hl, h0 hl, key _ 0 rfl]
    conv => rhs; rw [h1]
    rfl
  · have : l = [] := List.eq_nil_of_length_eq_zero (by omega)
    subst this; rfl
theorem spBad_two (x y : Span) : (!(spBad x y)) = ((!(r3One x)) && (!(r3Two y x))) := by
  rw [Bool.eq_iff_iff]
  simp only [spBad, r3One, r3Two, r3Dot, Bool.not_eq_true', Bool.or_eq_false_iff, Bool.and_eq_true, Bool.and_eq_false_iff, decide_eq_false_iff_not, decide_eq_true_eq, beq_eq_false_iff_ne, Bool.not_eq_false', ne_eq]
  omega
theorem spBad_one (x : Span) : (!(spBad x ⟨0, 0, 0⟩)) = !(r3One x) := by
  rw [Bool.eq_iff_iff]
  simp only [spBad, r3One, r3Dot, Bool.not_eq_true', Bool.or_eq_false_iff, Bool.and_eq_true, Bool.and_eq_false_iff, decide_eq_false_iff_not, decide_eq_true_eq, beq_eq_false_iff_ne, Bool.not_eq_false', ne_eq]
  omega
theorem spGo_chk : ∀ (l : List Span) (y : Span), spGo l y = pchk (fun x => !(r3One x)) (fun p x => !(r3Two p x)) (some y) l
  | [], _ => rfl
  | x :: l, y => by
    rw [spGo, pchk, ← spGo_chk l x, ← spBad_two]
    cases spBad x y <;> rfl
theorem spRight_eq (l : List Span) : spRight l = r3Right l := by
  unfold spRight r3Right
  have h1 : spGo l ⟨0, 0, 0⟩ = pchk (fun x => !(r3One x)) (fun p x => !(r3Two p x)) none l := by
    cases l with
    | nil => rfl
    | cons x l =>
      rw [spGo, pchk, ← spGo_chk l x, ← spBad_one]
      cases spBad x ⟨0, 0, 0⟩ <;> rfl
  rw [h1, allFrom_chk (fun x => !(r3One x)) (fun p x => !(r3Two p x))]
  · by_cases h : 1024 < l.length
    · have h2 : decide ((l.length : Int) ≤ 1024) = false := by simp; omega
      simp [h, h2]
    · have h2 : decide ((l.length : Int) ≤ 1024) = true := by simp; omega
      simp [h, h2]
  · intro _; simp
  · intro i _
    have : decide ((0 : Int) < ((i + 1 : Nat) : Int)) = true := by rw [decide_eq_true_eq]; omega
    rw [this, Bool.true_and, Nat.add_sub_cancel]
theorem rightOne_eq (v : Ver) : vsRightOne v = r5RightOne v := by
  unfold vsRightOne r5RightOne
  rw [spRight_eq v.past, top_eq]
  have h1 : spRight [⟨v.dot.s, v.dot.n, v.dot.n⟩] = r3Dot v.dot := by
    rw [Bool.eq_iff_iff]
    have e : ∀ c : Bool, (bif c then false else true) = !c := by decide
    simp only [spRight, spGo, e, spBad, r3Dot, Bool.and_eq_true, decide_eq_true_eq, List.length_singleton, Bool.not_eq_true', Bool.or_eq_false_iff, decide_eq_false_iff_not, Bool.and_eq_false_iff, beq_eq_false_iff_ne, ne_eq]
    omega
  rw [h1]
  have h2 : (decide (r3Top v.past v.dot.s < v.dot.n)) = !(decide (v.dot.n ≤ r3Top v.past v.dot.s)) := by
    rw [Bool.eq_iff_iff]; simp
  rw [h2]
  cases r3Dot v.dot <;> cases r3Right v.past <;> cases decide (v.dot.n ≤ r3Top v.past v.dot.s) <;> cases hg : v.gone <;> simp [hg]
  intro h
  rw [bytes_beq, decide_eq_true_eq] at h
  rw [h]
  decide
theorem right_eq (l : List Ver) : vsRight l = r5Right l := by
  unfold vsRight r5Right
  have h1 : allFrom (fun i => !(((!(vsRightOne (gt l i))) || (decide (0 < (i : Int)) && (!(vsBefore (gt l (i - 1)).dot (gt l i).dot)))) || vsBehind (gt l i).dot l)) 0 l.length =
      allFrom (fun i => !((!(r5RightOne (gt l i))) || r5Behind l (gt l i).dot) && !(decide (0 < (i : Int)) && !(r5Less (gt l (i - 1)).dot (gt l i).dot))) 0 l.length := by
    refine allFrom_congr fun i _ => ?_
    rw [rightOne_eq, less_eq, behind_eq]
    cases r5RightOne (gt l i) <;> cases r5Behind l (gt l i).dot <;> cases (decide (0 < (i : Int)) && !(r5Less (gt l (i - 1)).dot (gt l i).dot)) <;> rfl
  rw [h1]
  by_cases h : 512 < l.length
  · have h2 : decide ((l.length : Int) ≤ 512) = false := by rw [decide_eq_false_iff_not]; omega
    simp [h, h2]
  · have h2 : decide ((l.length : Int) ≤ 512) = true := by rw [decide_eq_true_eq]; omega
    simp [h, h2]
theorem right_iff {l : List Ver} (h : r5Right l = true) : l.length ≤ 512 ∧ (∀ x ∈ l, r5RightOne x = true ∧ r5Behind l x.dot = false) ∧ l.Pairwise (fun x y => r5Less x.dot y.dot = true) := by
  unfold r5Right at h
  by_cases hl : 512 < l.length
  · simp [hl] at h
  · have hd : decide (512 < l.length) = false := by simpa using hl
    rw [hd, cond_false, all0_iff] at h
    refine ⟨by omega, fun x hx => ?_, ?_⟩
    · obtain ⟨i, hi, rfl⟩ := mem_gt hx
      have := h i hi
      simp only [Bool.and_eq_true, Bool.not_eq_true', Bool.or_eq_false_iff, Bool.not_eq_false'] at this
      exact this.1
    · have htr : ∀ a b c : Dot, r5Less a b = true → r5Less b c = true → r5Less a c = true := by
        intro a b c
        rw [← less_eq, ← less_eq, ← less_eq]
        simp only [vsBefore, Bool.or_eq_true, Bool.and_eq_true, decide_eq_true_eq, beq_iff_eq]
        omega
      rw [List.pairwise_iff_getElem]
      have key : ∀ m i, i + m + 1 < l.length → r5Less (gt l i).dot (gt l (i + m + 1)).dot = true := by
        intro m
        induction m with
        | zero =>
          intro i hi
          have := h (i + 1) hi
          simp only [Bool.and_eq_true, Bool.not_eq_true'] at this
          have h2 := this.2
          rw [show decide ((0 : Int) < ((i + 1 : Nat) : Int)) = true by rw [decide_eq_true_eq]; omega, Bool.true_and, Bool.not_eq_false', Nat.add_sub_cancel] at h2
          exact h2
        | succ m ih =>
          intro i hi
          refine htr _ _ _ (ih i (by omega)) ?_
          have := h (i + m + 1 + 1) hi
          simp only [Bool.and_eq_true, Bool.not_eq_true'] at this
          have h2 := this.2
          rw [show decide ((0 : Int) < ((i + m + 1 + 1 : Nat) : Int)) = true by rw [decide_eq_true_eq]; omega, Bool.true_and, Bool.not_eq_false', Nat.add_sub_cancel] at h2
          exact h2
      intro i j hi hj hij
      have := key (j - i - 1) i (by omega)
      rw [show i + (j - i - 1) + 1 = j by omega, gt_eq hi, gt_eq hj] at this
      exact this
def Srt (l : List Ver) : Prop := l.Pairwise (fun x y => r5Less x.dot y.dot = true)
theorem less_irr (a : Dot) : r5Less a a = false := by
  rw [← less_eq]; simp [vsBefore]
theorem less_trans {a b c : Dot} (h1 : r5Less a b = true) (h2 : r5Less b c = true) : r5Less a c = true := by
  rw [← less_eq] at *
  simp only [vsBefore, Bool.or_eq_true, Bool.and_eq_true, decide_eq_true_eq, beq_iff_eq] at *
  omega
theorem less_tri (a b : Dot) : r5Less a b = true ∨ a = b ∨ r5Less b a = true := by
  rw [← less_eq, ← less_eq]
  cases a; cases b
  simp only [vsBefore, Bool.or_eq_true, Bool.and_eq_true, decide_eq_true_eq, beq_iff_eq, Dot.mk.injEq]
  omega
theorem srt_ext : ∀ {l m : List Ver}, Srt l → Srt m → (∀ x, x ∈ l ↔ x ∈ m) → l = m
  | [], [], _, _, _ => rfl
  | [], y :: m, _, _, h => absurd ((h y).2 (by simp)) (by simp)
  | x :: l, [], _, _, h => absurd ((h x).1 (by simp)) (by simp)
  | x :: l, y :: m, hl, hm, h => by
    obtain ⟨hx, hl2⟩ := List.pairwise_cons.1 hl
    obtain ⟨hy, hm2⟩ := List.pairwise_cons.1 hm
    have hxy : x = y := by
      rcases List.mem_cons.1 ((h x).1 (by simp)) with e | e
      · exact e
      · rcases List.mem_cons.1 ((h y).2 (by simp)) with e2 | e2
        · exact e2.symm
        · have := less_trans (hy x e) (hx y e2)
          rw [less_irr] at this; cases this
    subst hxy
    congr 1
    refine srt_ext hl2 hm2 fun z => ?_
    constructor
    · intro hz
      rcases List.mem_cons.1 ((h z).1 (List.mem_cons_of_mem _ hz)) with e | e
      · subst e; have := hx z hz; rw [less_irr] at this; cases this
      · exact e
    · intro hz
      rcases List.mem_cons.1 ((h z).2 (List.mem_cons_of_mem _ hz)) with e | e
      · subst e; have := hy z hz; rw [less_irr] at this; cases this
      · exact e
def ins (v : Ver) : List Ver → List Ver
  | [] => [v]
  | x :: l => bif r5Less x.dot v.dot then x :: ins v l else bif x.dot == v.dot then x :: l else v :: x :: l
theorem r5AtGo_add : ∀ (l : List Ver) (d : Dot) (k : Nat), r5AtGo l d k = k + r5AtGo l d 0
  | [], _, _ => rfl
  | x :: l, d, k => by
    rw [r5AtGo, r5AtGo, r5AtGo_add l d (k + 1), r5AtGo_add l d (0 + 1)]
    cases r5Less x.dot d
    · simp
    · simp only [cond_true]; omega
theorem r5Put_ins : ∀ (l : List Ver) (v : Ver), r5Put l v = ins v l
  | [], v => by simp [r5Put, ins, r5AtGo]
  | x :: l, v => by
    have ih := r5Put_ins l v
    unfold r5Put at ih ⊢
    rw [ins, r5AtGo, r5AtGo_add l v.dot (0 + 1)]
    cases hx : r5Less x.dot v.dot
    · simp [gt]
    · simp only [cond_true]
      rw [← ih]
      have h1 : gt (x :: l) (0 + 1 + r5AtGo l v.dot 0) = gt l (r5AtGo l v.dot 0) := by rw [show 0 + 1 + r5AtGo l v.dot 0 = r5AtGo l v.dot 0 + 1 by omega]; rfl
      have h2 : decide (((0 + 1 + r5AtGo l v.dot 0 : Nat) : Int) < ((x :: l).length : Int)) = decide (((r5AtGo l v.dot 0 : Nat) : Int) < (l.length : Int)) := by
        rw [Bool.eq_iff_iff, decide_eq_true_eq, decide_eq_true_eq]; simp only [List.length_cons]; omega
      rw [h1, h2, show 0 + 1 + r5AtGo l v.dot 0 = r5AtGo l v.dot 0 + 1 by omega]
      cases (decide (((r5AtGo l v.dot 0 : Nat) : Int) < (l.length : Int)) && ((gt l (r5AtGo l v.dot 0)).dot == v.dot)) <;> simp
theorem ins_mem {v y : Ver} : ∀ {l : List Ver}, y ∈ ins v l → y = v ∨ y ∈ l
  | [], h => by simp [ins] at h; exact .inl h
  | x :: l, h => by
    rw [ins] at h
    cases hx : r5Less x.dot v.dot
    · rw [hx, cond_false] at h
      cases he : (x.dot == v.dot)
      · rw [he, cond_false] at h; exact List.mem_cons.1 h
      · rw [he, cond_true] at h; exact .inr h
    · rw [hx, cond_true] at h
      rcases List.mem_cons.1 h with h | h
      · exact .inr (h ▸ List.mem_cons_self)
      · exact (ins_mem h).imp id (List.mem_cons_of_mem _)
theorem ins_old {v y : Ver} : ∀ {l : List Ver}, y ∈ l → y ∈ ins v l
  | x :: l, h => by
    rw [ins]
    cases hx : r5Less x.dot v.dot
    · rw [cond_false]
      cases he : (x.dot == v.dot)
      · rw [cond_false]; exact List.mem_cons_of_mem _ h
      · rw [cond_true]; exact h
    · rw [cond_true]
      rcases List.mem_cons.1 h with h | h
      · exact h ▸ List.mem_cons_self
      · exact List.mem_cons_of_mem _ (ins_old h)
theorem ins_srt {v : Ver} : ∀ {l : List Ver}, Srt l → Srt (ins v l)
  | [], _ => by simp [ins, Srt]
  | x :: l, h => by
    obtain ⟨h1, h2⟩ := List.pairwise_cons.1 h
    rw [ins]
    cases hx : r5Less x.dot v.dot
    · rw [cond_false]
      cases he : (x.dot == v.dot)
      · rw [cond_false]
        have hvx : r5Less v.dot x.dot = true := by
          rcases less_tri x.dot v.dot with h3 | h3 | h3
          · rw [hx] at h3; cases h3
          · rw [h3] at he; simp at he
          · exact h3
        refine List.pairwise_cons.2 ⟨fun y hy => ?_, h⟩
        rcases List.mem_cons.1 hy with e | e
        · rw [e]; exact hvx
        · exact less_trans hvx (h1 y e)
      · rw [cond_true]; exact h
    · rw [cond_true]
      refine List.pairwise_cons.2 ⟨fun y hy => ?_, ins_srt h2⟩
      rcases ins_mem hy with e | e
      · rw [e]; exact hx
      · exact h1 y e
theorem ins_has {v : Ver} : ∀ {l : List Ver}, (∀ x ∈ l, x.dot = v.dot → x = v) → v ∈ ins v l
  | [], _ => by simp [ins]
  | x :: l, h => by
    rw [ins]
    cases hx : r5Less x.dot v.dot
    · rw [cond_false]
      cases he : (x.dot == v.dot)
      · rw [cond_false]; exact List.mem_cons_self
      · rw [cond_true]
        have := h x List.mem_cons_self (eq_of_beq he)
        exact this ▸ List.mem_cons_self
    · rw [cond_true]; exact List.mem_cons_of_mem _ (ins_has fun y hy => h y (List.mem_cons_of_mem _ hy))
theorem fold_srt : ∀ {l skip out : List Ver}, Srt out → Srt (r5Fold l skip out)
  | [], _, _, h => h
  | x :: l, skip, out, h => by
    rw [r5Fold]
    refine fold_srt ?_
    cases r5Behind skip x.dot
    · simp only [Bool.not_false, cond_true]; rw [r5Put_ins]; exact ins_srt h
    · simpa using h
theorem fold_sub {y : Ver} : ∀ {l skip out : List Ver}, y ∈ r5Fold l skip out → y ∈ out ∨ (y ∈ l ∧ r5Behind skip y.dot = false)
  | [], _, _, h => .inl h
  | x :: l, skip, out, h => by
    rw [r5Fold] at h
    rcases fold_sub h with h1 | ⟨h1, h2⟩
    · cases hb : r5Behind skip x.dot
      · rw [hb] at h1
        simp only [Bool.not_false, cond_true] at h1
        rw [r5Put_ins] at h1
        rcases ins_mem h1 with e | e
        · subst e; exact .inr ⟨List.mem_cons_self, hb⟩
        · exact .inl e
      · rw [hb] at h1; exact .inl (by simpa using h1)
    · exact .inr ⟨List.mem_cons_of_mem _ h1, h2⟩
theorem fold_old {y : Ver} : ∀ {l skip out : List Ver}, y ∈ out → y ∈ r5Fold l skip out
  | [], _, _, h => h
  | x :: l, skip, out, h => by
    rw [r5Fold]
    refine fold_old ?_
    cases r5Behind skip x.dot
    · simp only [Bool.not_false, cond_true]; rw [r5Put_ins]; exact ins_old h
    · simpa using h
theorem fold_new {y : Ver} : ∀ {l skip out : List Ver}, (∀ a ∈ l, ∀ b ∈ l, a.dot = b.dot → a = b) → (∀ a ∈ out, ∀ b ∈ l, a.dot = b.dot → a = b) → y ∈ l → r5Behind skip y.dot = false → y ∈ r5Fold l skip out
  | [], _, _, _, _, h, _ => by cases h
  | x :: l, skip, out, hl, ho, h, hb => by
    rw [r5Fold]
    rcases List.mem_cons.1 h with e | e
    · subst e
      rw [hb]
      simp only [Bool.not_false, cond_true]
      rw [r5Put_ins]
      exact fold_old (ins_has fun a ha hd => ho a ha y List.mem_cons_self hd)
    · refine fold_new (fun a ha b hb' => hl a (List.mem_cons_of_mem _ ha) b (List.mem_cons_of_mem _ hb')) ?_ e hb
      intro a ha b hb' hd
      cases hx : r5Behind skip x.dot
      · rw [hx] at ha
        simp only [Bool.not_false, cond_true] at ha
        rw [r5Put_ins] at ha
        rcases ins_mem ha with e2 | e2
        · rw [e2] at hd ⊢; exact hl x List.mem_cons_self b (List.mem_cons_of_mem _ hb') hd
        · exact ho a e2 b (List.mem_cons_of_mem _ hb') hd
      · rw [hx] at ha
        exact ho a (by simpa using ha) b (List.mem_cons_of_mem _ hb') hd
def kept (A B : List Ver) (y : Ver) : Bool := !(r5Behind A y.dot) && !(r5Behind B y.dot)
theorem vsKeep_eq (v : Ver) (A B out : List Ver) : vsKeep v A B out = bif kept A B v then out ++ [v] else out := by
  unfold vsKeep kept; rw [behind_eq, behind_eq]
theorem keep_mem {v y : Ver} {A B out : List Ver} : y ∈ vsKeep v A B out ↔ y ∈ out ∨ (y = v ∧ kept A B v = true) := by
  rw [vsKeep_eq]
  cases kept A B v <;> simp
theorem go_sub {A B : List Ver} {y : Ver} : ∀ {n : Nat} {a b : List Ver} {tw : Bool} {out : List Ver}, y ∈ (vsGo A B n a b tw out).2 → y ∈ out ∨ ((y ∈ a ∨ y ∈ b) ∧ kept A B y = true)
  | 0, _, _, _, _, h => .inl h
  | n + 1, [], [], _, _, h => .inl h
  | n + 1, [], z :: b, tw, out, h => by
    rw [vsGo] at h
    rcases go_sub h with h | ⟨h, hk⟩
    · rcases keep_mem.1 h with h | ⟨rfl, hk⟩
      · exact .inl h
      · exact .inr ⟨.inr List.mem_cons_self, hk⟩
    · exact .inr ⟨h.imp id (List.mem_cons_of_mem _), hk⟩
  | n + 1, x :: a, [], tw, out, h => by
    rw [vsGo] at h
    rcases go_sub h with h | ⟨h, hk⟩
    · rcases keep_mem.1 h with h | ⟨rfl, hk⟩
      · exact .inl h
      · exact .inr ⟨.inl List.mem_cons_self, hk⟩
    · exact .inr ⟨h.imp (List.mem_cons_of_mem _) id, hk⟩
  | n + 1, x :: a, z :: b, tw, out, h => by
    rw [vsGo] at h
    cases hb : vsBefore x.dot z.dot
    · rw [hb, cond_false] at h
      cases he : (x.dot == z.dot)
      · rw [he, cond_false] at h
        rcases go_sub h with h | ⟨h, hk⟩
        · rcases keep_mem.1 h with h | ⟨rfl, hk⟩
          · exact .inl h
          · exact .inr ⟨.inr List.mem_cons_self, hk⟩
        · exact .inr ⟨h.imp id (List.mem_cons_of_mem _), hk⟩
      · rw [he, cond_true] at h
        rcases go_sub h with h | ⟨h, hk⟩
        · exact .inl h
        · exact .inr ⟨h.imp (List.mem_cons_of_mem _) id, hk⟩
    · rw [hb, cond_true] at h
      rcases go_sub h with h | ⟨h, hk⟩
      · rcases keep_mem.1 h with h | ⟨rfl, hk⟩
        · exact .inl h
        · exact .inr ⟨.inl List.mem_cons_self, hk⟩
      · exact .inr ⟨h.imp (List.mem_cons_of_mem _) id, hk⟩
theorem gt_ext {α : Type} [Inhabited α] {a b : List α} (hl : a.length = b.length) (h : ∀ i, i < a.length → gt a i = gt b i) : a = b := by
  apply List.ext_getElem hl
  intro i h1 h2
  have := h i h1
  rwa [gt_eq h1, gt_eq h2] at this
theorem r3Same_iff {a b : List Span} : r3Same a b = true ↔ a = b := by
  unfold r3Same
  by_cases hl : a.length = b.length
  · rw [show (a.length == b.length) = true by simpa using hl, cond_true, all0_iff]
    constructor
    · intro h; exact gt_ext hl fun i hi => by simpa using h i hi
    · rintro rfl i _; simp
  · rw [show (a.length == b.length) = false by simpa using hl, cond_false]
    simp only [Bool.false_eq_true, false_iff]
    rintro rfl; exact hl rfl
theorem sameOne_iff {a b : Ver} : r5SameOne a b = true ↔ a = b := by
  unfold r5SameOne
  simp only [Bool.and_eq_true, beq_iff_eq, r3Same_iff]
  cases a; cases b
  simp only [Ver.mk.injEq]
  constructor
  · rintro ⟨⟨⟨h1, h2⟩, h3⟩, h4⟩
    rw [bytes_beq, decide_eq_true_eq] at h3
    exact ⟨h1, h4, h2, h3⟩
  · rintro ⟨h1, h2, h3, h4⟩
    exact ⟨⟨⟨h1, h3⟩, by rw [bytes_beq, decide_eq_true_eq]; exact h4⟩, h2⟩
theorem vsSame_eq (a b : Ver) : vsSame a b = r5SameOne a b := by
  rw [Bool.eq_iff_iff, sameOne_iff]
  unfold vsSame
  have hb : ((a.val != b.val) = true) ↔ a.val ≠ b.val := by
    show (!(a.val == b.val)) = true ↔ _
    rw [bytes_beq]; simp
  by_cases h : ((((a.dot != b.dot) || (a.gone != b.gone)) || (a.val != b.val)) || ((a.past.length : Int) != (b.past.length : Int))) = true
  · rw [h, cond_true]
    simp only [Bool.false_eq_true, false_iff]
    rintro rfl
    simp only [Bool.or_eq_true, hb] at h
    simp at h
  · have h2 : ((((a.dot != b.dot) || (a.gone != b.gone)) || (a.val != b.val)) || ((a.past.length : Int) != (b.past.length : Int))) = false := by simpa using h
    rw [h2, cond_false, all0_iff]
    simp only [Bool.or_eq_true, hb, not_or, bne_iff_ne, ne_eq, Decidable.not_not] at h
    obtain ⟨⟨⟨h3, h4⟩, h5⟩, h6⟩ := h
    constructor
    · intro hp
      have : a.past = b.past := gt_ext (by exact_mod_cast h6) fun i hi => by simpa using hp i hi
      cases a; cases b; simp_all
    · rintro rfl i _; simp
theorem srt_inj {l : List Ver} (h : Srt l) {a b : Ver} (ha : a ∈ l) (hb : b ∈ l) (hd : a.dot = b.dot) : a = b := by
  induction l with
  | nil => cases ha
  | cons x l ih =>
    obtain ⟨h1, h2⟩ := List.pairwise_cons.1 h
    rcases List.mem_cons.1 ha with e | e <;> rcases List.mem_cons.1 hb with e' | e'
    · rw [e, e']
    · have := h1 b e'; rw [← e, hd, less_irr] at this; cases this
    · have := h1 a e; rw [← e', ← hd, less_irr] at this; cases this
    · exact ih h2 e e'
def Twin (a b : List Ver) : Prop := ∃ x ∈ a, ∃ z ∈ b, x.dot = z.dot ∧ x ≠ z
theorem r5Twin_iff {a b : List Ver} : r5Twin a b = true ↔ Twin a b := by
  unfold r5Twin Twin
  rw [any0_iff]
  constructor
  · rintro ⟨i, hi, h⟩
    obtain ⟨k, hk, h⟩ := any0_iff.1 h
    simp only [Bool.and_eq_true, beq_iff_eq, Bool.not_eq_true'] at h
    refine ⟨_, gt_mem hi, _, gt_mem hk, h.1, fun e => ?_⟩
    have := sameOne_iff.2 e
    rw [h.2] at this; cases this
  · rintro ⟨x, hx, z, hz, hd, hn⟩
    obtain ⟨i, hi, rfl⟩ := mem_gt hx
    obtain ⟨k, hk, rfl⟩ := mem_gt hz
    refine ⟨i, hi, any0_iff.2 ⟨k, hk, ?_⟩⟩
    simp only [Bool.and_eq_true, beq_iff_eq, Bool.not_eq_true']
    refine ⟨hd, ?_⟩
    cases h : r5SameOne (gt a i) (gt b k)
    · rfl
    · exact absurd (sameOne_iff.1 h) hn
theorem lt_ne {a b : Dot} (h : r5Less a b = true) : a ≠ b := by rintro rfl; rw [less_irr] at h; cases h
theorem go_tw {A B : List Ver} : ∀ {n : Nat} {a b : List Ver} {tw : Bool} {out : List Ver}, Srt a → Srt b → a.length + b.length ≤ n → ((vsGo A B n a b tw out).1 = true ↔ tw = true ∨ Twin a b)
  | 0, a, b, tw, out, _, _, hn => by
    have : a = [] := List.eq_nil_of_length_eq_zero (by omega)
    subst this
    simp [vsGo, Twin]
  | n + 1, [], [], tw, out, _, _, _ => by simp [vsGo, Twin]
  | n + 1, [], z :: b, tw, out, ha, hb, hn => by
    rw [vsGo, go_tw ha (List.pairwise_cons.1 hb).2 (by simp at hn ⊢; omega)]
    simp [Twin]
  | n + 1, x :: a, [], tw, out, ha, hb, hn => by
    rw [vsGo, go_tw (List.pairwise_cons.1 ha).2 hb (by simp at hn ⊢; omega)]
    simp [Twin]
  | n + 1, x :: a, z :: b, tw, out, ha, hb, hn => by
    obtain ⟨ha1, ha2⟩ := List.pairwise_cons.1 ha
    obtain ⟨hb1, hb2⟩ := List.pairwise_cons.1 hb
    rw [vsGo, less_eq]
    cases hl : r5Less x.dot z.dot
    · rw [cond_false]
      cases he : (x.dot == z.dot)
      · rw [cond_false, go_tw ha hb2 (by simp at hn ⊢; omega)]
        have hzx : r5Less z.dot x.dot = true := by
          rcases less_tri x.dot z.dot with h | h | h
          · rw [hl] at h; cases h
          · rw [h] at he; simp at he
          · exact h
        refine or_congr_right ⟨fun ⟨p, hp, q, hq, h⟩ => ⟨p, hp, q, List.mem_cons_of_mem _ hq, h⟩, fun ⟨p, hp, q, hq, h⟩ => ⟨p, hp, q, ?_, h⟩⟩
        rcases List.mem_cons.1 hq with e | e
        · exfalso
          subst e
          rcases List.mem_cons.1 hp with e | e
          · subst e; exact lt_ne hzx h.1.symm
          · exact lt_ne (less_trans hzx (ha1 p e)) h.1.symm
        · exact e
      · rw [cond_true, go_tw ha2 hb (by simp at hn ⊢; omega)]
        have hd := eq_of_beq he
        rw [Bool.or_eq_true, or_assoc]
        refine or_congr_right ?_
        rw [vsSame_eq]
        constructor
        · rintro (h | ⟨p, hp, q, hq, h⟩)
          · refine ⟨x, List.mem_cons_self, z, List.mem_cons_self, hd, fun e => ?_⟩
            rw [sameOne_iff.2 e] at h; cases h
          · exact ⟨p, List.mem_cons_of_mem _ hp, q, hq, h⟩
        · rintro ⟨p, hp, q, hq, h1, h2⟩
          rcases List.mem_cons.1 hp with e | e
          · subst e
            rcases List.mem_cons.1 hq with e | e
            · subst e
              left
              cases hs : r5SameOne p q
              · rfl
              · exact absurd (sameOne_iff.1 hs) h2
            · exact absurd (hd ▸ h1) (lt_ne (hb1 q e))
          · exact .inr ⟨p, e, q, hq, h1, h2⟩
    · rw [cond_true, go_tw ha2 hb (by simp at hn ⊢; omega)]
      refine or_congr_right ⟨fun ⟨p, hp, q, hq, h⟩ => ⟨p, List.mem_cons_of_mem _ hp, q, hq, h⟩, fun ⟨p, hp, q, hq, h⟩ => ⟨p, ?_, q, hq, h⟩⟩
      rcases List.mem_cons.1 hp with e | e
      · exfalso
        subst e
        rcases List.mem_cons.1 hq with e | e
        · subst e; exact lt_ne hl h.1
        · exact lt_ne (less_trans hl (hb1 q e)) h.1
      · exact e
theorem go_has {A B : List Ver} {y : Ver} : ∀ {n : Nat} {a b : List Ver} {tw : Bool} {out : List Ver}, Srt a → Srt b → a.length + b.length ≤ n → ¬ Twin a b → (y ∈ out ∨ ((y ∈ a ∨ y ∈ b) ∧ kept A B y = true)) → y ∈ (vsGo A B n a b tw out).2
  | 0, a, b, tw, out, _, _, hn, _, h => by
    have h1 : a = [] := List.eq_nil_of_length_eq_zero (by omega)
    have h2 : b = [] := List.eq_nil_of_length_eq_zero (by omega)
    subst h1; subst h2
    simpa [vsGo] using h
  | n + 1, [], [], tw, out, _, _, _, _, h => by simpa [vsGo] using h
  | n + 1, [], z :: b, tw, out, ha, hb, hn, ht, h => by
    rw [vsGo]
    refine go_has ha (List.pairwise_cons.1 hb).2 (by simp at hn ⊢; omega) (by simp [Twin]) ?_
    rcases h with h | ⟨h | h, hk⟩
    · exact .inl (keep_mem.2 (.inl h))
    · cases h
    · rcases List.mem_cons.1 h with e | e
      · exact .inl (keep_mem.2 (.inr ⟨e, e ▸ hk⟩))
      · exact .inr ⟨.inr e, hk⟩
  | n + 1, x :: a, [], tw, out, ha, hb, hn, ht, h => by
    rw [vsGo]
    refine go_has (List.pairwise_cons.1 ha).2 hb (by simp at hn ⊢; omega) (by simp [Twin]) ?_
    rcases h with h | ⟨h | h, hk⟩
    · exact .inl (keep_mem.2 (.inl h))
    · rcases List.mem_cons.1 h with e | e
      · exact .inl (keep_mem.2 (.inr ⟨e, e ▸ hk⟩))
      · exact .inr ⟨.inl e, hk⟩
    · cases h
  | n + 1, x :: a, z :: b, tw, out, ha, hb, hn, ht, h => by
    have ha2 := (List.pairwise_cons.1 ha).2
    have hb2 := (List.pairwise_cons.1 hb).2
    have ht1 : ¬ Twin a (z :: b) := fun ⟨p, hp, q, hq, h⟩ => ht ⟨p, List.mem_cons_of_mem _ hp, q, hq, h⟩
    have ht2 : ¬ Twin (x :: a) b := fun ⟨p, hp, q, hq, h⟩ => ht ⟨p, hp, q, List.mem_cons_of_mem _ hq, h⟩
    rw [vsGo]
    cases hl : vsBefore x.dot z.dot
    · rw [cond_false]
      cases he : (x.dot == z.dot)
      · rw [cond_false]
        refine go_has ha hb2 (by simp at hn ⊢; omega) ht2 ?_
        rcases h with h | ⟨h | h, hk⟩
        · exact .inl (keep_mem.2 (.inl h))
        · exact .inr ⟨.inl h, hk⟩
        · rcases List.mem_cons.1 h with e | e
          · exact .inl (keep_mem.2 (.inr ⟨e, e ▸ hk⟩))
          · exact .inr ⟨.inr e, hk⟩
      · rw [cond_true]
        refine go_has ha2 hb (by simp at hn ⊢; omega) ht1 ?_
        rcases h with h | ⟨h | h, hk⟩
        · exact .inl h
        · rcases List.mem_cons.1 h with e | e
          · have hxz : x = z := by
              by_cases hxz : x = z
              · exact hxz
              · exact absurd ⟨x, List.mem_cons_self, z, List.mem_cons_self, eq_of_beq he, hxz⟩ ht
            exact .inr ⟨.inr (by rw [e, hxz]; exact List.mem_cons_self), hk⟩
          · exact .inr ⟨.inl e, hk⟩
        · exact .inr ⟨.inr h, hk⟩
    · rw [cond_true]
      refine go_has ha2 hb (by simp at hn ⊢; omega) ht1 ?_
      rcases h with h | ⟨h | h, hk⟩
      · exact .inl (keep_mem.2 (.inl h))
      · rcases List.mem_cons.1 h with e | e
        · exact .inl (keep_mem.2 (.inr ⟨e, e ▸ hk⟩))
        · exact .inr ⟨.inl e, hk⟩
      · exact .inr ⟨.inr h, hk⟩
theorem keep_srt {v : Ver} {A B out : List Ver} (ho : Srt out) (h : ∀ o ∈ out, r5Less o.dot v.dot = true) : Srt (vsKeep v A B out) := by
  rw [vsKeep_eq]
  cases kept A B v
  · exact ho
  · rw [cond_true]
    refine List.pairwise_append.2 ⟨ho, by simp, fun o ho' y hy => ?_⟩
    rw [List.mem_singleton.1 hy]; exact h o ho'
theorem go_srt {A B : List Ver} : ∀ {n : Nat} {a b : List Ver} {tw : Bool} {out : List Ver}, Srt a → Srt b → Srt out → (∀ o ∈ out, (∀ y ∈ a, r5Less o.dot y.dot = true) ∧ ∀ y ∈ b, r5Less o.dot y.dot = true) → Srt (vsGo A B n a b tw out).2
  | 0, _, _, _, _, _, _, h, _ => h
  | n + 1, [], [], _, _, _, _, h, _ => h
  | n + 1, [], z :: b, tw, out, ha, hb, ho, h => by
    obtain ⟨hb1, hb2⟩ := List.pairwise_cons.1 hb
    rw [vsGo]
    refine go_srt ha hb2 (keep_srt ho fun o h' => (h o h').2 z List.mem_cons_self) fun o h' => ⟨by simp, fun y hy => ?_⟩
    rcases keep_mem.1 h' with h2 | ⟨h2, _⟩
    · exact (h o h2).2 y (List.mem_cons_of_mem _ hy)
    · rw [h2]; exact hb1 y hy
  | n + 1, x :: a, [], tw, out, ha, hb, ho, h => by
    obtain ⟨ha1, ha2⟩ := List.pairwise_cons.1 ha
    rw [vsGo]
    refine go_srt ha2 hb (keep_srt ho fun o h' => (h o h').1 x List.mem_cons_self) fun o h' => ⟨fun y hy => ?_, by simp⟩
    rcases keep_mem.1 h' with h2 | ⟨h2, _⟩
    · exact (h o h2).1 y (List.mem_cons_of_mem _ hy)
    · rw [h2]; exact ha1 y hy
  | n + 1, x :: a, z :: b, tw, out, ha, hb, ho, h => by
    obtain ⟨ha1, ha2⟩ := List.pairwise_cons.1 ha
    obtain ⟨hb1, hb2⟩ := List.pairwise_cons.1 hb
    rw [vsGo, less_eq]
    cases hl : r5Less x.dot z.dot
    · rw [cond_false]
      cases he : (x.dot == z.dot)
      · rw [cond_false]
        have hzx : r5Less z.dot x.dot = true := by
          rcases less_tri x.dot z.dot with h | h | h
          · rw [hl] at h; cases h
          · rw [h] at he; simp at he
          · exact h
        refine go_srt ha hb2 (keep_srt ho fun o h' => (h o h').2 z List.mem_cons_self) fun o h' => ?_
        rcases keep_mem.1 h' with h2 | ⟨h2, _⟩
        · exact ⟨(h o h2).1, fun y hy => (h o h2).2 y (List.mem_cons_of_mem _ hy)⟩
        · rw [h2]
          refine ⟨fun y hy => ?_, hb1⟩
          rcases List.mem_cons.1 hy with e | e
          · rw [e]; exact hzx
          · exact less_trans hzx (ha1 y e)
      · rw [cond_true]
        exact go_srt ha2 hb ho fun o h' => ⟨fun y hy => (h o h').1 y (List.mem_cons_of_mem _ hy), (h o h').2⟩
    · rw [cond_true]
      refine go_srt ha2 hb (keep_srt ho fun o h' => (h o h').1 x List.mem_cons_self) fun o h' => ?_
      rcases keep_mem.1 h' with h2 | ⟨h2, _⟩
      · exact ⟨fun y hy => (h o h2).1 y (List.mem_cons_of_mem _ hy), (h o h2).2⟩
      · rw [h2]
        refine ⟨ha1, fun y hy => ?_⟩
        rcases List.mem_cons.1 hy with e | e
        · rw [e]; exact hl
        · exact less_trans hl (hb1 y e)
theorem merge_lists {a b : List Ver} (ha : r5Right a = true) (hb : r5Right b = true) (ht : ¬ Twin a b) : (vsGo a b (a.length + b.length) a b false []).2 = r5Fold b a (r5Fold a b []) := by
  obtain ⟨_, ha1, ha2⟩ := right_iff ha
  obtain ⟨_, hb1, hb2⟩ := right_iff hb
  refine srt_ext (go_srt ha2 hb2 (by simp [Srt]) (by simp)) (fold_srt (fold_srt (by simp [Srt]))) fun y => ?_
  constructor
  · intro h
    rcases go_sub h with h | ⟨h, hk⟩
    · cases h
    · unfold kept at hk
      simp only [Bool.and_eq_true, Bool.not_eq_true'] at hk
      have sub : ∀ p ∈ r5Fold a b [], p ∈ a := fun p hp => (fold_sub hp).elim (fun h => by cases h) (fun h => h.1)
      rcases h with h | h
      · exact fold_old (fold_new (fun p hp q hq hd => srt_inj ha2 hp hq hd) (by simp) h hk.2)
      · refine fold_new (fun p hp q hq hd => srt_inj hb2 hp hq hd) (fun p hp q hq hd => ?_) h hk.1
        by_cases e : p = q
        · exact e
        · exact absurd ⟨p, sub p hp, q, hq, hd, e⟩ ht
  · intro h
    refine go_has ha2 hb2 (Nat.le_refl _) ht (.inr ?_)
    unfold kept
    rw [Bool.and_eq_true, Bool.not_eq_true', Bool.not_eq_true']
    rcases fold_sub h with h | ⟨h, hk⟩
    · rcases fold_sub h with h | ⟨h, hk⟩
      · cases h
      · exact ⟨.inl h, (ha1 y h).2, hk⟩
    · exact ⟨.inr h, hk, (hb1 y h).2⟩
theorem merge_eq (a b : List Ver) : vsMerge a b = r5Merge a b := by
  unfold vsMerge r5Merge
  rw [right_eq, right_eq]
  cases ha : r5Right a
  · rfl
  · cases hb : r5Right b
    · rfl
    · simp only [Bool.not_true, Bool.or_self, cond_false]
      obtain ⟨_, ha1, ha2⟩ := right_iff ha
      obtain ⟨_, hb1, hb2⟩ := right_iff hb
      have h1 : (vsGo a b (a.length + b.length) a b false []).1 = r5Twin a b := by
        rw [Bool.eq_iff_iff, go_tw ha2 hb2 (Nat.le_refl _), r5Twin_iff]; simp
      rw [h1]
      cases ht : r5Twin a b
      · rw [merge_lists ha hb (by rw [← r5Twin_iff, ht]; simp)]
      · rfl
section
variable {α S R : Type} [Inhabited α]
theorem forI_inv {body : (S → Option R) → Nat → α → S → Option R} {k : S → Option R} {l : List α} (T : Nat → S → Option R) (I : Nat → S → Prop) (hend : ∀ s, I l.length s → k s = T l.length s)
    (hstep : ∀ f i s, i < l.length → I i s → (∀ s', I (i + 1) s' → f s' = T (i + 1) s') → body f i (gt l i) s = T i s) {s : S} (h0 : I 0 s) : forI body k 0 l s = T 0 s := by
  have key : ∀ m i s, l.length - i = m → i ≤ l.length → I i s → forI body k i (l.drop i) s = T i s := by
    intro m
    induction m with
    | zero =>
      intro i s hm hi hI
      have : i = l.length := by omega
      subst this
      rw [List.drop_of_length_le (Nat.le_refl _)]
      exact hend s hI
    | succ m ih =>
      intro i s hm hi hI
      rw [drop_gt (by omega)]
      exact hstep _ i s (by omega) hI fun s' h' => ih (i + 1) s' (by omega) (by omega) h'
  exact key _ 0 s rfl (Nat.zero_le _) h0
theorem forU_inv {body : (S → Option R) → Nat → S → Option R} {k : S → Option R} {n : Nat} (T : Nat → S → Option R) (I : Nat → S → Prop) (hend : ∀ s, I n s → k s = T n s)
    (hstep : ∀ f i s, i < n → I i s → (∀ s', I (i + 1) s' → f s' = T (i + 1) s') → body f i s = T i s) {s : S} (h0 : I 0 s) : forU body k n 0 s = T 0 s := by
  have key : ∀ m i s, i + m = n → I i s → forU body k m i s = T i s := by
    intro m
    induction m with
    | zero =>
      intro i s hm hI
      obtain rfl : i = n := by omega
      exact hend s hI
    | succ m ih =>
      intro i s hm hI
      exact hstep _ i s (by omega) hI fun s' h' => ih (i + 1) s' (by omega) h'
  exact key n 0 s (by omega) h0
theorem loopN_inv {body : (S → Option R) → S → Option R} (T : S → Option R) (I : S → Prop) (μ : S → Nat)
    (hstep : ∀ f s, I s → (∀ s', I s' → μ s' < μ s → f s' = T s') → body f s = T s) : ∀ {n : Nat} {s : S}, I s → μ s < n → loopN body n s = T s
  | 0, _, _, h => absurd h (Nat.not_lt_zero _)
  | n + 1, s, hI, h => hstep _ s hI fun s' h' hl => loopN_inv T I μ hstep h' (by omega)
theorem forI_all {body : (Unit → Option R) → Nat → α → Unit → Option R} {k : Unit → Option R} {l : List α} {p : Nat → Bool} {r : Option R}
    (h : ∀ f i, i < l.length → body f i (gt l i) () = bif p i then f () else r) : forI body k 0 l () = bif allFrom p 0 l.length then k () else r := by
  refine forI_inv (fun i _ => bif allFrom p i l.length then k () else r) (fun _ _ => True) (fun s _ => ?_) (fun f i s hi _ hf => ?_) trivial
  · rw [allFrom_end (Nat.le_refl _)]; rfl
  · rw [h f i hi, hf () trivial, allFrom_step hi]
    cases p i <;> rfl
theorem forU_all {body : (Unit → Option R) → Nat → Unit → Option R} {k : Unit → Option R} {n : Nat} {p : Nat → Bool} {r : Option R}
    (h : ∀ f i, i < n → body f i () = bif p i then f () else r) : forU body k n 0 () = bif allFrom p 0 n then k () else r := by
  refine forU_inv (fun i _ => bif allFrom p i n then k () else r) (fun _ _ => True) (fun s _ => ?_) (fun f i s hi _ hf => ?_) trivial
  · rw [allFrom_end (Nat.le_refl _)]; rfl
  · rw [h f i hi, hf () trivial, allFrom_step hi]
    cases p i <;> rfl
end
theorem nat_f {a b : Nat} (h : a = b) : (((a : Nat) : Int) != ((b : Nat) : Int)) = false := by subst h; simp
theorem nat_t {a b : Nat} (h : ¬ a = b) : (((a : Nat) : Int) != ((b : Nat) : Int)) = true := by rw [bne_iff_ne]; omega
theorem gcall_s {R : Type} [Inhabited R] (g : Bool) (v : R) : gcall g (some v) = some (bif g then v else default) := by cases g <;> rfl
theorem w64_nat {i : Nat} (h : i ≤ 4294967296) : w64 (((i : Nat) : Int) - 1) = ((i : Nat) : Int) - 1 := w64_i (by unfold I64; omega)
theorem chk_t {R : Type} {c : Bool} {k : Option R} (h : c = true) : chk c k = k := by rw [h]; rfl
theorem e_Has (l : List Span) (d : Dot) : m_span_Has l d = some (spHas l d) := by
  unfold m_span_Has
  refine forI_inv (fun i _ => some (spHas (l.drop i) d)) (fun _ _ => True) (fun s _ => ?_) (fun f i s hi _ hf => ?_) trivial
  · rw [List.drop_of_length_le (Nat.le_refl _)]; rfl
  · unfold m_span_Has_b1
    rw [hf () trivial, drop_gt hi, spHas]
    cases (((gt l i).s == d.s) && (decide ((gt l i).f ≤ d.n))) && (decide (d.n ≤ (gt l i).t)) <;> rfl
theorem e_r3Has (l : List Span) (d : Dot) : m_firthref03_Has l d = some (r3Has l d) := by
  unfold m_firthref03_Has
  refine forI_inv (fun i _ => some (r3Has (l.drop i) d)) (fun _ _ => True) (fun s _ => ?_) (fun f i s hi _ hf => ?_) trivial
  · rw [List.drop_of_length_le (Nat.le_refl _)]; rfl
  · unfold m_firthref03_Has_b1
    rw [hf () trivial, drop_gt hi, r3Has]
    cases (((gt l i).s == d.s) && (decide ((gt l i).f ≤ d.n))) && (decide (d.n ≤ (gt l i).t)) <;> rfl
theorem e_r3Same (a b : List Span) : m_firthref03_Same a b = some (r3Same a b) := by
  unfold m_firthref03_Same r3Same
  by_cases hl : a.length = b.length
  · rw [nat_f hl, show (a.length == b.length) = true by simpa using hl, cond_false, cond_true]
    rw [forI_all (p := fun i => gt a i == gt b i) (r := some false) (fun f i hi => ?_)]
    · cases allFrom (fun i => gt a i == gt b i) 0 a.length <;> rfl
    · unfold m_firthref03_Same_b1
      rw [chk_t (by simpa using (by omega : i < b.length))]
      show (bif !(gt a i == gt b i) then _ else _) = _
      cases gt a i == gt b i <;> rfl
  · rw [nat_t hl, show (a.length == b.length) = false by simpa using hl]; rfl
theorem e_Right3 (l : List Span) : m_span_Right l = some (spRight l) := by
  unfold m_span_Right spRight
  have := forI_inv (body := m_span_Right_b1) (k := fun _ => some (decide (((l.length : Nat) : Int) ≤ 1024))) (l := l) (fun i s => some (spGo (l.drop i) s && decide (((l.length : Nat) : Int) ≤ 1024))) (fun i s => s.t ≤ 4611686018427387904 ∧ 0 ≤ s.t)
    (fun s _ => ?_) (fun f i s hi hI hf => ?_) (s := ⟨0, 0, 0⟩) (by decide)
  · rw [this]; rfl
  · rw [List.drop_of_length_le (Nat.le_refl _)]; rfl
  · unfold m_span_Right_b1
    rw [w64_i (x := s.t + 1) (by unfold I64; omega), drop_gt hi, spGo]
    show (bif spBad (gt l i) s then _ else _) = _
    cases h : spBad (gt l i) s
    · rw [cond_false, cond_false]
      refine hf _ ?_
      unfold spBad at h
      simp only [Bool.or_eq_false_iff, decide_eq_false_iff_not] at h
      omega
    · rfl
theorem e_Top3 (l : List Span) (s : Int) : m_span_Top l s = some (spTop l s) := by
  unfold m_span_Top spTop
  have := forI_inv (body := m_span_Top_b5 s) (k := fun x => some x) (l := l) (fun i t => some (spTopGo (l.drop i) s t)) (fun _ _ => True)
    (fun t _ => ?_) (fun f i t hi hI hf => ?_) (s := 0) trivial
  · rw [this]; rfl
  · rw [List.drop_of_length_le (Nat.le_refl _)]; rfl
  · unfold m_span_Top_b5 m_span_Top_j6
    rw [hf _ trivial, hf _ trivial, drop_gt hi, spTopGo]
    cases (gt l i).s == s <;> rfl
theorem e_r3Dot (d : Dot) : m_firthref03_Dot d = some (r3Dot d) := rfl
theorem e_r3Right {l : List Span} (hl : l.length ≤ lim) (hr : ∀ x ∈ l, I64 x.f) : m_firthref03_Right l = some (r3Right l) := by
  unfold m_firthref03_Right r3Right
  have hd : (decide (1024 < ((l.length : Nat) : Int))) = decide (1024 < l.length) := by rw [Bool.eq_iff_iff, decide_eq_true_eq, decide_eq_true_eq]; omega
  rw [hd]
  cases decide (1024 < l.length)
  · rw [cond_false, cond_false, forI_all (p := fun i => !(r3One (gt l i)) && !(decide (0 < (i : Int)) && r3Two (gt l (i - 1)) (gt l i))) (r := some false) (fun f i hi => ?_)]
    · cases allFrom (fun i => !(r3One (gt l i)) && !(decide (0 < (i : Int)) && r3Two (gt l (i - 1)) (gt l i))) 0 l.length <;> rfl
    · unfold m_firthref03_Right_b1
      rw [lim_eq] at hl
      have hf : (1 ≤ (gt l i).f → w64 ((gt l i).f - 1) = (gt l i).f - 1) := fun h => w64_i (by have := hr _ (gt_mem hi); unfold I64 at *; omega)
      rw [e_r3Dot, e_r3Dot, w64_nat (by omega)]
      simp only [Option.bind_some, gcall_s]
      unfold r3One
      cases h1 : r3Dot ⟨(gt l i).s, (gt l i).f⟩
      · rfl
      · cases h2 : r3Dot ⟨(gt l i).s, (gt l i).t⟩
        · rfl
        · cases h3 : decide ((gt l i).t < (gt l i).f)
          · simp only [Bool.not_true, Bool.not_false, cond_true, Bool.or_self, cond_false]
            rw [hf (r3Dot_t h1).2.2.1]
            by_cases h0 : 0 < (i : Int)
            · rw [show decide (0 < ((i : Nat) : Int)) = true by simpa using h0]
              have hi1 : (((i : Nat) : Int) - 1).toNat = i - 1 := by omega
              rw [chk_t (show imp true (inb (((i : Nat) : Int) - 1) l.length) = true by
                show inb _ _ = true
                unfold inb
                rw [Bool.and_eq_true, decide_eq_true_eq, decide_eq_true_eq]; omega), hi1]
              unfold r3Two
              simp only [Bool.true_and]
              cases (decide ((gt l i).s < (gt l (i - 1)).s) || ((gt l i).s == (gt l (i - 1)).s) && decide ((gt l i).f - 1 ≤ (gt l (i - 1)).t)) <;> rfl
            · rw [show decide (0 < ((i : Nat) : Int)) = false by simpa using h0]
              rfl
          · rfl
  · rfl
theorem e_r3Top (l : List Span) (s : Int) : m_firthref03_Top l s = some (r3Top l s) := by
  unfold m_firthref03_Top r3Top
  have := forI_inv (body := m_firthref03_Top_b5 s) (k := fun x => some x) (l := l) (fun i t => some (r3TopGo (l.drop i) s t)) (fun _ _ => True)
    (fun t _ => ?_) (fun f i t hi hI hf => ?_) (s := 0) trivial
  · rw [this]; rfl
  · rw [List.drop_of_length_le (Nat.le_refl _)]; rfl
  · unfold m_firthref03_Top_b5 m_firthref03_Top_j6
    rw [hf _ trivial, hf _ trivial, drop_gt hi, r3TopGo]
    cases ((gt l i).s == s) && (decide (t < (gt l i).t)) <;> rfl
structure VerOk (v : Ver) : Prop where
  dot : I64 v.dot.s ∧ I64 v.dot.n
  len : v.past.length ≤ lim
  past : ∀ x ∈ v.past, I64 x.f
  val : v.val.size ≤ lim
def VersOk (l : List Ver) : Prop := l.length ≤ lim ∧ ∀ v ∈ l, VerOk v
theorem e_RightOne (v : Ver) : m_vers_RightOne v = some (vsRightOne v) := by
  unfold m_vers_RightOne vsRightOne
  rw [e_Right3, e_Right3, e_Top3]
  simp only [Option.bind_some, gcall_s]
  cases spRight [⟨v.dot.s, v.dot.n, v.dot.n⟩] <;> cases spRight v.past <;> rfl
theorem e_before (a b : Dot) : m_vers_before a b = some (vsBefore a b) := rfl
theorem e_behind (d : Dot) (l : List Ver) : m_vers_behind d l = some (vsBehind d l) := by
  unfold m_vers_behind
  refine forI_inv (fun i _ => some (vsBehind d (l.drop i))) (fun _ _ => True) (fun s _ => ?_) (fun f i s hi _ hf => ?_) trivial
  · rw [List.drop_of_length_le (Nat.le_refl _)]; rfl
  · unfold m_vers_behind_b1
    rw [hf () trivial, drop_gt hi, vsBehind, e_Has]
    simp only [Option.bind_some]
    cases spHas (gt l i).past d <;> rfl
theorem e_Right5 {l : List Ver} (hl : l.length ≤ lim) : m_vers_Right l = some (vsRight l) := by
  unfold m_vers_Right vsRight
  rw [forI_all (p := fun i => !(((!(vsRightOne (gt l i))) || (decide (0 < (i : Int)) && (!(vsBefore (gt l (i - 1)).dot (gt l i).dot)))) || vsBehind (gt l i).dot l)) (r := some false) (fun f i hi => ?_)]
  · cases allFrom (fun i => !(((!(vsRightOne (gt l i))) || (decide (0 < (i : Int)) && (!(vsBefore (gt l (i - 1)).dot (gt l i).dot)))) || vsBehind (gt l i).dot l)) 0 l.length <;> rfl
  · unfold m_vers_Right_b1
    rw [lim_eq] at hl
    rw [e_RightOne, e_before, e_behind, w64_nat (by omega)]
    simp only [Option.bind_some, gcall_s]
    cases h1 : vsRightOne (gt l i)
    · rfl
    · by_cases h0 : 0 < (i : Int)
      · rw [show decide (0 < ((i : Nat) : Int)) = true by simpa using h0]
        have hi1 : (((i : Nat) : Int) - 1).toNat = i - 1 := by omega
        rw [chk_t (show imp _ (inb (((i : Nat) : Int) - 1) l.length) = true by
          show inb _ _ = true
          unfold inb
          rw [Bool.and_eq_true, decide_eq_true_eq, decide_eq_true_eq]; omega), hi1]
        cases vsBefore (gt l (i - 1)).dot (gt l i).dot <;> cases vsBehind (gt l i).dot l <;> rfl
      · rw [show decide (0 < ((i : Nat) : Int)) = false by simpa using h0]
        show (bif _ || _ then _ else _) = _
        cases vsBehind (gt l i).dot l <;> rfl
theorem e_same (a b : Ver) : m_vers_same a b = some (vsSame a b) := by
  unfold m_vers_same vsSame
  cases h : ((((a.dot != b.dot) || (a.gone != b.gone)) || (a.val != b.val)) || (((a.past.length : Nat) : Int) != ((b.past.length : Nat) : Int)))
  · rw [cond_false, cond_false]
    have hl : a.past.length = b.past.length := by
      have := or_r h
      rw [bne_eq_false_iff_eq] at this; omega
    rw [forI_all (p := fun i => !(gt a.past i != gt b.past i)) (r := some false) (fun f i hi => ?_)]
    · cases allFrom (fun i => !(gt a.past i != gt b.past i)) 0 a.past.length <;> rfl
    · unfold m_vers_same_b1
      rw [chk_t (by simpa using (by omega : i < b.past.length))]
      cases gt a.past i != gt b.past i <;> rfl
  · rfl
theorem e_vclone {l : List Span} (h : l.length ≤ lim) : m_vers_clone_api_Span l = some l := by
  unfold m_vers_clone_api_Span; rw [chk_t (by simpa using h)]
theorem e_keep {v : Ver} {a b out : List Ver} (hv : v.past.length ≤ lim) (ho : out.length < lim) : m_vers_Merge_1 v a b out = some (vsKeep v a b out) := by
  unfold m_vers_Merge_1 vsKeep
  rw [e_behind, e_behind, e_vclone hv]
  simp only [Option.bind_some, gcall_s]
  rw [chk_t (show decide (out.length + 1 ≤ lim) = true by rw [decide_eq_true_eq]; omega)]
  cases vsBehind v.dot a <;> cases vsBehind v.dot b <;> rfl
theorem any_all (p : Nat → Bool) (k n : Nat) : anyFrom p k n = !(allFrom (fun i => !(p i)) k n) := by
  unfold anyFrom allFrom
  rw [← List.not_any_eq_all_not, Bool.not_not]
def mOut (q : Bool × List Ver) : Option (List Ver × Int) := bif q.1 then some ([], 50) else bif decide ((512 : Int) < ((q.2.length : Nat) : Int)) then some ([], 3) else some (q.2, 0)
def mGo (a b : List Ver) (s : Bool × Int × Int × List Ver) : Bool × List Ver := vsGo a b ((a.length - s.2.1.toNat) + (b.length - s.2.2.1.toNat)) (a.drop s.2.1.toNat) (b.drop s.2.2.1.toNat) s.1 s.2.2.2
theorem inb_nat {i n : Nat} (h : i < n) : inb ((i : Nat) : Int) n = true := by unfold inb; rw [Bool.and_eq_true, decide_eq_true_eq, decide_eq_true_eq]; omega
theorem w64_s {i : Nat} (h : i ≤ 4294967296) : w64 (((i : Nat) : Int) + 1) = ((i + 1 : Nat) : Int) := by rw [w64_i (by unfold I64; omega)]; omega
theorem e_mergeLoop {a b : List Ver} (ha : a.length ≤ 512) (hb : b.length ≤ 512) (hva : ∀ v ∈ a, VerOk v) (hvb : ∀ v ∈ b, VerOk v) : loopN (m_vers_Merge_b1 a b) FU (false, 0, 0, []) = mOut (vsGo a b (a.length + b.length) a b false []) := by
  have := loopN_inv (body := m_vers_Merge_b1 a b) (fun s => mOut (mGo a b s)) (fun s => ∃ i k : Nat, s.2.1 = (i : Int) ∧ s.2.2.1 = (k : Int) ∧ i ≤ a.length ∧ k ≤ b.length ∧ s.2.2.2.length ≤ i + k)
    (fun s => (a.length - s.2.1.toNat) + (b.length - s.2.2.1.toNat)) (fun f s hI hf => ?_) (n := FU) (s := (false, 0, 0, [])) ⟨0, 0, rfl, rfl, by omega, by omega, by simp⟩ (by simp [FU]; omega)
  · rw [this]; simp [mGo]
  obtain ⟨tw, i0, k0, out⟩ := s
  obtain ⟨i, k, hi, hk, hia, hkb, ho⟩ := hI
  simp only at hi hk ho
  subst hi; subst hk
  unfold m_vers_Merge_b1
  simp only [e_before, e_same, Option.bind_some, gcall_s, Int.toNat_natCast]
  have hlim : out.length < lim := by rw [lim_eq]; omega
  cases hc0 : (decide (((i : Nat) : Int) < ((a.length : Nat) : Int)) || decide (((k : Nat) : Int) < ((b.length : Nat) : Int)))
  · -- at the end
    simp only [Bool.or_eq_false_iff, decide_eq_false_iff_not] at hc0
    have h1 : i = a.length := by omega
    have h2 : k = b.length := by omega
    subst h1; subst h2
    rw [cond_false]
    unfold mGo mOut
    simp only [Int.toNat_natCast, Nat.sub_self, Nat.add_zero, List.drop_length, vsGo]
  · rw [cond_true]
    have g1 : imp (!((k : Int) == ((b.length : Nat) : Int)) && decide ((i : Int) < ((a.length : Nat) : Int))) (inb (i : Int) a.length) = true := by
      cases h : (!((k : Int) == ((b.length : Nat) : Int)) && decide ((i : Int) < ((a.length : Nat) : Int)))
      · rfl
      · have := and_r h; rw [decide_eq_true_eq] at this
        exact inb_nat (by omega)
    have g2 : imp (!((k : Int) == ((b.length : Nat) : Int)) && decide ((i : Int) < ((a.length : Nat) : Int))) (inb (k : Int) b.length) = true := by
      cases h : (!((k : Int) == ((b.length : Nat) : Int)) && decide ((i : Int) < ((a.length : Nat) : Int)))
      · rfl
      · have := and_l h
        simp only [Bool.not_eq_true', beq_eq_false_iff_ne, ne_eq] at this
        exact inb_nat (by omega)
    rw [chk_t g1, chk_t g2]
    have hz : (((k : Int) == ((b.length : Nat) : Int)) || (decide ((i : Int) < ((a.length : Nat) : Int)) && (bif (!((k : Int) == ((b.length : Nat) : Int)) && decide ((i : Int) < ((a.length : Nat) : Int))) then vsBefore (gt a i).dot (gt b k).dot else default))) =
        (((k : Int) == ((b.length : Nat) : Int)) || (decide ((i : Int) < ((a.length : Nat) : Int)) && vsBefore (gt a i).dot (gt b k).dot)) := by
      cases ((k : Int) == ((b.length : Nat) : Int)) <;> cases decide ((i : Int) < ((a.length : Nat) : Int)) <;> rfl
    rw [hz]
    cases hc : (((k : Int) == ((b.length : Nat) : Int)) || (decide ((i : Int) < ((a.length : Nat) : Int)) && vsBefore (gt a i).dot (gt b k).dot))
    · rw [cond_false]
      have hkb2 : k < b.length := by
        have := or_l hc
        rw [beq_eq_false_iff_ne] at this; omega
      have g3 : imp (decide ((i : Int) < ((a.length : Nat) : Int))) (inb (i : Int) a.length) = true := by
        cases h : decide ((i : Int) < ((a.length : Nat) : Int))
        · rfl
        · rw [decide_eq_true_eq] at h; exact inb_nat (by omega)
      have g4 : imp (decide ((i : Int) < ((a.length : Nat) : Int))) (inb (k : Int) b.length) = true := by
        cases h : decide ((i : Int) < ((a.length : Nat) : Int))
        · rfl
        · exact inb_nat hkb2
      rw [chk_t g3, chk_t g4]
      cases he : (decide ((i : Int) < ((a.length : Nat) : Int)) && ((gt a i).dot == (gt b k).dot))
      · rw [cond_false, chk_t (inb_nat hkb2), e_keep (hvb _ (gt_mem hkb2)).len hlim, Option.bind_some, w64_s (by omega), hf]
        · show mOut (mGo a b _) = mOut (mGo a b _)
          unfold mGo
          simp only [Int.toNat_natCast]
          rw [vsGo_b hia hkb2 hc he]
        · refine ⟨i, k + 1, rfl, rfl, hia, hkb2, ?_⟩
          have := vsKeep_len (gt b k) a b out
          simp only; omega
        · simp only [Int.toNat_natCast]; omega
      · rw [cond_true]
        have hia2 : i < a.length := by have := and_l he; rw [decide_eq_true_eq] at this; omega
        have g5 : imp (!tw) (inb (i : Int) a.length) = true := by cases tw; exact inb_nat hia2; rfl
        have g6 : imp (!tw) (inb (k : Int) b.length) = true := by cases tw; exact inb_nat hkb2; rfl
        rw [chk_t g5, chk_t g6, w64_s (by omega), hf]
        · show mOut (mGo a b _) = mOut (mGo a b _)
          unfold mGo
          simp only [Int.toNat_natCast]
          rw [vsGo_t hia2 hkb2 hc (and_r he)]
          cases tw <;> rfl
        · exact ⟨i + 1, k, rfl, rfl, hia2, hkb, by simp only; omega⟩
        · simp only [Int.toNat_natCast]; omega
    · rw [cond_true]
      have hia2 : i < a.length := by
        by_cases hkb2 : k = b.length
        · subst hkb2; simp at hc0; omega
        · rw [Bool.or_eq_true] at hc
          rcases hc with h | h
          · rw [beq_iff_eq] at h; omega
          · have := and_l h; rw [decide_eq_true_eq] at this; omega
      rw [chk_t (inb_nat hia2), e_keep (hva _ (gt_mem hia2)).len hlim, Option.bind_some, w64_s (by omega), hf]
      · show mOut (mGo a b _) = mOut (mGo a b _)
        unfold mGo
        simp only [Int.toNat_natCast]
        rw [vsGo_a hia2 hkb hc]
      · refine ⟨i + 1, k, rfl, rfl, hia2, hkb, ?_⟩
        have := vsKeep_len (gt a i) a b out
        simp only; omega
      · simp only [Int.toNat_natCast]; omega
theorem e_Merge {a b : List Ver} (ha : VersOk a) (hb : VersOk b) : m_vers_Merge a b = some (vsMerge a b) := by
  unfold m_vers_Merge vsMerge
  rw [e_Right5 ha.1, e_Right5 hb.1]
  simp only [Option.bind_some, gcall_s]
  cases h1 : vsRight a
  · rfl
  · cases h2 : vsRight b
    · rfl
    · show loopN (m_vers_Merge_b1 a b) FU (false, 0, 0, []) = _
      rw [e_mergeLoop (vsRight_len h1) (vsRight_len h2) ha.2 hb.2]
      simp only [Bool.not_true, Bool.or_self, cond_false]
      unfold mOut
      cases (vsGo a b (a.length + b.length) a b false []).1
      · rw [cond_false, cond_false]
        cases decide ((512 : Int) < (((vsGo a b (a.length + b.length) a b false []).2.length : Nat) : Int)) <;> rfl
      · rfl
theorem e_SameOne (a b : Ver) : m_firthref05_SameOne a b = some (r5SameOne a b) := by
  unfold m_firthref05_SameOne r5SameOne
  rw [e_r3Same]
  simp only [Option.bind_some, gcall_s]
  cases (((a.dot == b.dot) && (a.gone == b.gone)) && (a.val == b.val)) <;> rfl
theorem e_r5Same (a b : List Ver) : m_firthref05_Same a b = some (r5Same a b) := by
  unfold m_firthref05_Same r5Same
  by_cases hl : a.length = b.length
  · rw [nat_f hl, show (a.length == b.length) = true by simpa using hl, cond_false, cond_true]
    rw [forI_all (p := fun i => r5SameOne (gt a i) (gt b i)) (r := some false) (fun f i hi => ?_)]
    · cases allFrom (fun i => r5SameOne (gt a i) (gt b i)) 0 a.length <;> rfl
    · unfold m_firthref05_Same_b1
      rw [chk_t (by simpa using (by omega : i < b.length)), e_SameOne]
      show (bif !(r5SameOne (gt a i) (gt b i)) then _ else _) = _
      cases r5SameOne (gt a i) (gt b i) <;> rfl
  · rw [nat_t hl, show (a.length == b.length) = false by simpa using hl]; rfl
theorem e_vsSameL (a b : List Ver) : m_vers_Same a b = some (vsSameL a b) := by
  unfold m_vers_Same vsSameL
  have hm : (min ((a.length : Nat) : Int) ((b.length : Nat) : Int)).toNat = min a.length b.length := by omega
  rw [hm, forU_all (p := fun i => vsSame (gt a i) (gt b i)) (r := some false) (fun f i hi => ?_)]
  · cases allFrom (fun k => vsSame (gt a k) (gt b k)) 0 (min a.length b.length) <;> rfl
  · unfold m_vers_Same_b1
    rw [chk_t (by simpa using (by omega : i < a.length)), chk_t (by simpa using (by omega : i < b.length)), e_same]
    show (bif !(vsSame (gt a i) (gt b i)) then _ else _) = _
    cases vsSame (gt a i) (gt b i) <;> rfl
theorem e_r5Behind (l : List Ver) (d : Dot) : m_firthref05_Behind l d = some (r5Behind l d) := by
  unfold m_firthref05_Behind
  refine forI_inv (fun i _ => some (r5Behind (l.drop i) d)) (fun _ _ => True) (fun s _ => ?_) (fun f i s hi _ hf => ?_) trivial
  · rw [List.drop_of_length_le (Nat.le_refl _)]; rfl
  · unfold m_firthref05_Behind_b1
    rw [hf () trivial, drop_gt hi, r5Behind, e_r3Has]
    simp only [Option.bind_some]
    cases r3Has (gt l i).past d <;> rfl
theorem e_Less (a b : Dot) : m_firthref05_Less a b = some (r5Less a b) := by
  unfold m_firthref05_Less r5Less
  cases a.s != b.s <;> rfl
theorem e_r5RightOne {v : Ver} (hv : VerOk v) : m_firthref05_RightOne v = some (r5RightOne v) := by
  unfold m_firthref05_RightOne r5RightOne
  rw [e_r3Dot, e_r3Right hv.len hv.past, e_r3Top]
  simp only [Option.bind_some, gcall_s]
  cases r3Dot v.dot
  · rfl
  · cases r3Right v.past
    · rfl
    · simp only [Bool.not_true, Bool.not_false, Bool.or_self, cond_true, Bool.false_or]
      cases decide (v.dot.n ≤ r3Top v.past v.dot.s)
      · cases v.gone <;> rfl
      · rfl
theorem e_r5Right {l : List Ver} (hl : VersOk l) : m_firthref05_Right l = some (r5Right l) := by
  unfold m_firthref05_Right r5Right
  have hd : (decide (512 < ((l.length : Nat) : Int))) = decide (512 < l.length) := by rw [Bool.eq_iff_iff, decide_eq_true_eq, decide_eq_true_eq]; omega
  rw [hd]
  cases decide (512 < l.length)
  · rw [cond_false, cond_false, forI_all (p := fun i => !((!(r5RightOne (gt l i))) || r5Behind l (gt l i).dot) && !(decide (0 < (i : Int)) && !(r5Less (gt l (i - 1)).dot (gt l i).dot))) (r := some false) (fun f i hi => ?_)]
    · cases allFrom (fun i => !((!(r5RightOne (gt l i))) || r5Behind l (gt l i).dot) && !(decide (0 < (i : Int)) && !(r5Less (gt l (i - 1)).dot (gt l i).dot))) 0 l.length <;> rfl
    · unfold m_firthref05_Right_b1
      have hl1 := hl.1
      rw [lim_eq] at hl1
      rw [e_r5RightOne (hl.2 _ (gt_mem hi)), e_r5Behind, e_Less, w64_nat (by omega)]
      simp only [Option.bind_some, gcall_s]
      cases r5RightOne (gt l i)
      · rfl
      · cases r5Behind l (gt l i).dot
        · by_cases h0 : 0 < (i : Int)
          · rw [show decide (0 < ((i : Nat) : Int)) = true by simpa using h0]
            have hi1 : (((i : Nat) : Int) - 1).toNat = i - 1 := by omega
            simp only [Bool.not_true, Bool.not_false, cond_true, Bool.or_self, cond_false, Bool.true_and]
            rw [chk_t (show imp _ (inb (((i : Nat) : Int) - 1) l.length) = true by
              show inb _ _ = true
              unfold inb
              rw [Bool.and_eq_true, decide_eq_true_eq, decide_eq_true_eq]; omega), hi1]
            cases r5Less (gt l (i - 1)).dot (gt l i).dot <;> rfl
          · rw [show decide (0 < ((i : Nat) : Int)) = false by simpa using h0]
            rfl
        · rfl
  · rfl
def putAt (l : List Ver) (v : Ver) (n : Nat) : List Ver := bif (decide ((n : Int) < (l.length : Int)) && ((gt l n).dot == v.dot)) then l else (l.take n ++ [v]) ++ l.drop n
theorem e_put {l : List Ver} (v : Ver) (hl : l.length < lim) : m_firthref05_put l v = some (r5Put l v) := by
  unfold m_firthref05_put
  have := loopN_inv (body := m_firthref05_put_b1 l v) (fun s => some (putAt l v (r5AtGo (l.drop s.toNat) v.dot s.toNat))) (fun s => ∃ i : Nat, s = (i : Int) ∧ i ≤ l.length)
    (fun s => l.length - s.toNat) (fun f s hI hf => ?_) (n := FU) (s := 0) ⟨0, rfl, by omega⟩ (by rw [lim_eq] at hl; simp [FU]; omega)
  · rw [this]; rfl
  obtain ⟨i, rfl, hi⟩ := hI
  rw [lim_eq] at hl
  unfold m_firthref05_put_b1
  simp only [e_Less, Option.bind_some, gcall_s, Int.toNat_natCast]
  have g1 : imp (decide ((i : Int) < ((l.length : Nat) : Int))) (inb (i : Int) l.length) = true := by
    cases h : decide ((i : Int) < ((l.length : Nat) : Int))
    · rfl
    · rw [decide_eq_true_eq] at h; exact inb_nat (by omega)
  rw [chk_t g1]
  have hz : (decide ((i : Int) < ((l.length : Nat) : Int)) && (bif decide ((i : Int) < ((l.length : Nat) : Int)) then r5Less (gt l i).dot v.dot else default)) = (decide ((i : Int) < ((l.length : Nat) : Int)) && r5Less (gt l i).dot v.dot) := by
    cases decide ((i : Int) < ((l.length : Nat) : Int)) <;> rfl
  rw [hz]
  cases hc : (decide ((i : Int) < ((l.length : Nat) : Int)) && r5Less (gt l i).dot v.dot)
  · rw [cond_false, r5AtGo_stop hi hc]
    unfold putAt
    cases (decide ((i : Int) < ((l.length : Nat) : Int)) && ((gt l i).dot == v.dot))
    · rw [cond_false, cond_false]
      have h1 : inle ((i : Nat) : Int) l.length = true := by unfold inle; rw [Bool.and_eq_true, decide_eq_true_eq, decide_eq_true_eq]; omega
      have hlt : (l.take i).length = i := by rw [List.length_take]; omega
      rw [chk_t h1, chk_t (by rw [decide_eq_true_eq, lim_eq, hlt]; omega), chk_t (by rw [decide_eq_true_eq, lim_eq, hlt]; omega), chk_t (by rw [decide_eq_true_eq, lim_eq]; simp; omega)]
    · rfl
  · rw [cond_true]
    have hil : i < l.length := by have := and_l hc; rw [decide_eq_true_eq] at this; omega
    rw [w64_s (by omega), hf _ ⟨i + 1, rfl, hil⟩ (by rw [Int.toNat_natCast, Int.toNat_natCast]; omega)]
    have hst : r5AtGo (l.drop i) v.dot i = r5AtGo (l.drop (i + 1)) v.dot (i + 1) := by
      rw [drop_gt hil, r5AtGo, and_r hc, cond_true]
    simp only [Int.toNat_natCast]
    rw [hst]
theorem e_r5Merge {a b : List Ver} (ha : VersOk a) (hb : VersOk b) : m_firthref05_Merge a b = some (r5Merge a b) := by
  unfold m_firthref05_Merge r5Merge
  rw [e_r5Right ha, e_r5Right hb]
  simp only [Option.bind_some, gcall_s]
  cases h1 : r5Right a
  · rfl
  · cases h2 : r5Right b
    · rfl
    · simp only [Bool.not_true, Bool.not_false, cond_true, Bool.or_self, cond_false]
      have hla := r5Right_len h1
      have hlb := r5Right_len h2
      rw [forI_all (p := fun i => allFrom (fun k => !(((gt a i).dot == (gt b k).dot) && (!(r5SameOne (gt a i) (gt b k))))) 0 b.length) (r := some ([], 50)) (fun f i hi => ?_)]
      · have ht : r5Twin a b = !(allFrom (fun i => allFrom (fun k => !(((gt a i).dot == (gt b k).dot) && (!(r5SameOne (gt a i) (gt b k))))) 0 b.length) 0 a.length) := by
          unfold r5Twin
          rw [any_all]
          congr 1
          exact allFrom_congr fun i _ => by rw [any_all, Bool.not_not]
        rw [ht]
        cases allFrom (fun i => allFrom (fun k => !(((gt a i).dot == (gt b k).dot) && (!(r5SameOne (gt a i) (gt b k))))) 0 b.length) 0 a.length
        · rfl
        · rw [cond_true, Bool.not_true, cond_false]
          have step2 : ∀ out : List Ver, out.length ≤ a.length → forI (m_firthref05_Merge_b14 a) (fun out_81 => (bif (decide (512 < ((out_81.length : Nat) : Int))) then (some ([], 3)) else (some (out_81, 0)))) 0 b out =
              (bif (decide ((512 : Int) < (((r5Fold b a out).length : Nat) : Int))) then (some (([] : List Ver), (3 : Int))) else (some (r5Fold b a out, 0))) := by
            intro out ho
            have := forI_inv (body := m_firthref05_Merge_b14 a) (k := fun out_81 => (bif (decide (512 < ((out_81.length : Nat) : Int))) then (some (([] : List Ver), (3 : Int))) else (some (out_81, 0)))) (l := b)
              (fun i s => (bif (decide ((512 : Int) < (((r5Fold (b.drop i) a s).length : Nat) : Int))) then (some (([] : List Ver), (3 : Int))) else (some (r5Fold (b.drop i) a s, 0)))) (fun i s => s.length ≤ a.length + i)
              (fun s _ => ?_) (fun f i s hi hI hf => ?_) (s := out) (by simpa using ho)
            · rw [this]; rfl
            · rw [List.drop_of_length_le (Nat.le_refl _)]; rfl
            · unfold m_firthref05_Merge_b14 m_firthref05_Merge_j15
              rw [e_r5Behind, e_put _ (by rw [lim_eq]; omega)]
              simp only [Option.bind_some]
              rw [drop_gt hi, r5Fold]
              have hp := r5Put_len s (gt b i)
              cases r5Behind a (gt b i).dot
              · simp only [Bool.not_false, cond_true]
                exact hf _ (by omega)
              · simp only [Bool.not_true, cond_false]
                exact hf _ (by omega)
          have := forI_inv (body := m_firthref05_Merge_b9 b) (k := fun out_44 => forI (m_firthref05_Merge_b14 a) (fun out_81 => (bif (decide (512 < ((out_81.length : Nat) : Int))) then (some (([] : List Ver), (3 : Int))) else (some (out_81, 0)))) 0 b out_44) (l := a)
            (fun i s => (bif (decide ((512 : Int) < (((r5Fold b a (r5Fold (a.drop i) b s)).length : Nat) : Int))) then (some (([] : List Ver), (3 : Int))) else (some (r5Fold b a (r5Fold (a.drop i) b s), 0)))) (fun i s => s.length ≤ i)
            (fun s hs => ?_) (fun f i s hi hI hf => ?_) (s := []) (by simp)
          · rw [this, List.drop_zero]
            cases (decide ((512 : Int) < (((r5Fold b a (r5Fold a b [])).length : Nat) : Int))) <;> rfl
          · rw [List.drop_of_length_le (Nat.le_refl _)]; exact step2 s hs
          · unfold m_firthref05_Merge_b9 m_firthref05_Merge_j10
            rw [e_r5Behind, e_put _ (by rw [lim_eq]; omega)]
            simp only [Option.bind_some]
            rw [drop_gt hi, r5Fold]
            have hp := r5Put_len s (gt a i)
            cases r5Behind b (gt a i).dot
            · simp only [Bool.not_false, cond_true]
              exact hf _ (by omega)
            · simp only [Bool.not_true, cond_false]
              exact hf _ (by omega)
      · unfold m_firthref05_Merge_b4
        rw [forI_all (p := fun k => !(((gt a i).dot == (gt b k).dot) && (!(r5SameOne (gt a i) (gt b k))))) (r := some ([], 50)) (fun f k hk => ?_)]
        unfold m_firthref05_Merge_b5
        rw [e_SameOne]
        simp only [Option.bind_some, gcall_s]
        cases (gt a i).dot == (gt b k).dot <;> cases r5SameOne (gt a i) (gt b k) <;> rfl
theorem sameL_eq (a b : List Ver) : vsSameL a b = r5Same a b := by
  unfold vsSameL r5Same
  by_cases hl : a.length = b.length
  · rw [show (a.length == b.length) = true by simpa using hl, cond_true, show min a.length b.length = a.length by omega, show ((a.length : Int) == (b.length : Int)) = true by rw [beq_iff_eq]; omega]
    rw [allFrom_congr (q := fun i => r5SameOne (gt a i) (gt b i)) fun i _ => vsSame_eq _ _]
    cases allFrom (fun i => r5SameOne (gt a i) (gt b i)) 0 a.length <;> rfl
  · rw [show (a.length == b.length) = false by simpa using hl, show ((a.length : Int) == (b.length : Int)) = false by rw [beq_eq_false_iff_ne]; omega]
    cases allFrom (fun k => vsSame (gt a k) (gt b k)) 0 (min a.length b.length) <;> rfl
theorem r5Same_iff {a b : List Ver} : r5Same a b = true ↔ a = b := by
  unfold r5Same
  by_cases hl : a.length = b.length
  · rw [show (a.length == b.length) = true by simpa using hl, cond_true, all0_iff]
    constructor
    · intro h; exact gt_ext hl fun i hi => sameOne_iff.1 (h i hi)
    · rintro rfl i _; exact sameOne_iff.2 rfl
  · rw [show (a.length == b.length) = false by simpa using hl, cond_false]
    simp only [Bool.false_eq_true, false_iff]
    rintro rfl; exact hl rfl
theorem merge_mem {a b : List Ver} {y : Ver} (h : y ∈ (r5Merge a b).1) : y ∈ a ∨ y ∈ b := by
  unfold r5Merge at h
  cases h1 : ((!(r5Right a)) || (!(r5Right b)))
  · rw [h1, cond_false] at h
    cases h2 : r5Twin a b
    · rw [h2, cond_false] at h
      cases h3 : decide ((512 : Int) < ((r5Fold b a (r5Fold a b [])).length : Int))
      · rw [h3, cond_false] at h
        rcases fold_sub h with h | ⟨h, _⟩
        · rcases fold_sub h with h | ⟨h, _⟩
          · cases h
          · exact .inl h
        · exact .inr h
      · rw [h3] at h; cases h
    · rw [h2] at h; cases h
  · rw [h1] at h; cases h
theorem merge_len (a b : List Ver) : (r5Merge a b).1.length ≤ 512 := by
  unfold r5Merge
  cases ((!(r5Right a)) || (!(r5Right b)))
  · rw [cond_false]
    cases r5Twin a b
    · rw [cond_false]
      cases h3 : decide ((512 : Int) < ((r5Fold b a (r5Fold a b [])).length : Int))
      · rw [cond_false]
        rw [decide_eq_false_iff_not] at h3
        show (r5Fold b a (r5Fold a b [])).length ≤ 512
        omega
      · simp
    · simp
  · simp
theorem merge_ok {a b : List Ver} (ha : VersOk a) (hb : VersOk b) : VersOk (r5Merge a b).1 := by
  refine ⟨?_, fun v hv => (merge_mem hv).elim (ha.2 v) (hb.2 v)⟩
  have := merge_len a b
  rw [lim_eq]; omega
def ky (r : Rec) : List UInt8 := r.key.data.toList
theorem ba_inj {a b : ByteArray} (h : a.data.toList = b.data.toList) : a = b := by
  rcases a with ⟨⟨a⟩⟩
  rcases b with ⟨⟨b⟩⟩
  simp only at h
  rw [h]
instance : LawfulBEq ByteArray where
  eq_of_beq {a b} h := by rw [bytes_beq] at h; exact of_decide_eq_true h
  rfl {a} := by rw [bytes_beq]; exact decide_eq_true rfl
theorem ky_key {a b : Rec} : ky a = ky b ↔ a.key = b.key := ⟨fun h => ba_inj h, fun h => by unfold ky; rw [h]⟩
def SR (l : List Rec) : Prop := l.Pairwise (fun a b => ky a < ky b)
theorem lt_irr (x : List UInt8) : ¬ x < x := List.lt_irrefl x
theorem lt_tr {x y z : List UInt8} (h : x < y) (h2 : y < z) : x < z := List.lt_trans h h2
theorem lt_as {x y : List UInt8} (h : x < y) : ¬ y < x := fun h2 => lt_irr x (lt_tr h h2)
theorem lt_tri {x y : List UInt8} (h : ¬ y < x) (hne : x ≠ y) : x < y := by
  rcases Classical.em (x < y) with h2 | h2
  · exact h2
  · exact absurd (List.le_antisymm (show x ≤ y from h) (show y ≤ x from h2)) hne
theorem sr_ext : ∀ {l l' : List Rec}, SR l → SR l' → (∀ f, f ∈ l ↔ f ∈ l') → l = l'
  | [], [], _, _, _ => rfl
  | [], b :: l', _, _, h => by have := (h b).2 List.mem_cons_self; cases this
  | a :: l, [], _, _, h => by have := (h a).1 List.mem_cons_self; cases this
  | a :: l, b :: l', h1, h2, h => by
    unfold SR at h1 h2
    rw [List.pairwise_cons] at h1 h2
    have e : a = b := by
      rcases List.mem_cons.1 ((h a).1 List.mem_cons_self) with e | ha
      · exact e
      · rcases List.mem_cons.1 ((h b).2 List.mem_cons_self) with e | hb
        · exact e.symm
        · exact absurd (h2.1 a ha) (lt_as (h1.1 b hb))
    subst e
    rw [sr_ext h1.2 h2.2 fun f => ?_]
    refine ⟨fun hf => ?_, fun hf => ?_⟩
    · rcases List.mem_cons.1 ((h f).1 (List.mem_cons_of_mem _ hf)) with e | hf2
      · subst e; exact absurd (h1.1 f hf) (lt_irr _)
      · exact hf2
    · rcases List.mem_cons.1 ((h f).2 (List.mem_cons_of_mem _ hf)) with e | hf2
      · subst e; exact absurd (h2.1 f hf) (lt_irr _)
      · exact hf2
theorem sr_key {l : List Rec} (h : SR l) {a b : Rec} (ha : a ∈ l) (hb : b ∈ l) (he : a.key = b.key) : a = b := by
  induction l with
  | nil => cases ha
  | cons x l ih =>
    unfold SR at h
    rw [List.pairwise_cons] at h
    rcases List.mem_cons.1 ha with e1 | ha1
    · rcases List.mem_cons.1 hb with e2 | hb1
      · rw [e1, e2]
      · subst e1; have h9 := h.1 b hb1; rw [ky_key.2 he] at h9; exact absurd h9 (lt_irr _)
    · rcases List.mem_cons.1 hb with e2 | hb1
      · subst e2; have h9 := h.1 a ha1; rw [ky_key.2 he] at h9; exact absurd h9 (lt_irr _)
      · exact ih h.2 ha1 hb1
structure RecOk (r : Rec) : Prop where
  key : r.key.size ≤ lim
  vers : VersOk r.vers
def rr (r : Rec) : Bool := (r.key != ByteArray.empty && decide (((r.key.size : Nat) : Int) ≤ 32)) && r5Right r.vers
theorem bif_and (a b : Bool) : (a && (bif a then b else default)) = (a && b) := by cases a <;> rfl
theorem e_rRec {r : Rec} (h : RecOk r) : m_firthref06_RightRec r = some (rr r) := by
  unfold m_firthref06_RightRec rr
  rw [e_r5Right h.vers, gcall_s, Option.bind_some, bif_and]
theorem empty_size (b : ByteArray) : decide (1 ≤ ((b.size : Nat) : Int)) = (b != ByteArray.empty) := by
  rw [Bool.eq_iff_iff, decide_eq_true_eq, bne_iff_ne]
  constructor
  · rintro h rfl
    have : ByteArray.empty.size = 0 := rfl
    omega
  · intro h
    have : b.size ≠ 0 := fun h0 => h (ba_inj (by
      have h1 : b.data.toList.length = 0 := h0
      rw [List.eq_nil_of_length_eq_zero h1]; rfl))
    omega
theorem e_cRec {r : Rec} (h : RecOk r) : m_code_RightRec r = some (rr r) := by
  unfold m_code_RightRec rr
  rw [e_Right5 h.vers.1, right_eq, gcall_s, Option.bind_some, bif_and, empty_size]
def insR (r : Rec) : List Rec → List Rec
  | [] => [r]
  | x :: l => bif strLt r.key x.key then r :: x :: l else x :: insR r l
def oth (r : Rec) (l : List Rec) : List Rec := l.filter (fun x => !(x.key == r.key))
def withr (l : List Rec) (r : Rec) : List Rec := bif decide (r.vers.length = 0) then oth r l else insR r (oth r l)
theorem mem_insR {r x : Rec} : ∀ {l : List Rec}, x ∈ insR r l ↔ x = r ∨ x ∈ l
  | [] => by simp [insR]
  | y :: l => by
    unfold insR
    cases strLt r.key y.key
    · simp only [cond_false, List.mem_cons, mem_insR]
      constructor
      · rintro (h | h | h) <;> simp [h]
      · rintro (h | h | h) <;> simp [h]
    · simp
theorem mem_oth {r x : Rec} {l : List Rec} : x ∈ oth r l ↔ x ∈ l ∧ x.key ≠ r.key := by simp [oth]
theorem mem_withr {r x : Rec} {l : List Rec} : x ∈ withr l r ↔ (x = r ∧ r.vers ≠ []) ∨ (x ∈ l ∧ x.key ≠ r.key) := by
  unfold withr
  by_cases h : r.vers.length = 0
  · rw [decide_eq_true h, cond_true, mem_oth]
    simp [List.eq_nil_of_length_eq_zero h]
  · rw [decide_eq_false h, cond_false, mem_insR, mem_oth]
    have : r.vers ≠ [] := fun e => h (by rw [e]; rfl)
    simp [this]
theorem strLt_iff {a b : ByteArray} : strLt a b = true ↔ a.data.toList < b.data.toList := by unfold strLt; exact decide_eq_true_iff
theorem sr_insR {r : Rec} : ∀ {l : List Rec}, SR l → (∀ x ∈ l, x.key ≠ r.key) → SR (insR r l)
  | [], _, _ => by simp [insR, SR]
  | y :: l, h, hn => by
    unfold SR at h
    rw [List.pairwise_cons] at h
    unfold insR
    cases hc : strLt r.key y.key with
    | true =>
      have h1 : ky r < ky y := strLt_iff.1 hc
      simp only [cond_true]
      unfold SR
      rw [List.pairwise_cons, List.pairwise_cons]
      refine ⟨fun x hx => ?_, h⟩
      rcases List.mem_cons.1 hx with e | hx
      · rw [e]; exact h1
      · exact lt_tr h1 (h.1 x hx)
    | false =>
      simp only [cond_false]
      unfold SR
      rw [List.pairwise_cons]
      refine ⟨fun x hx => ?_, sr_insR h.2 fun x hx => hn x (List.mem_cons_of_mem _ hx)⟩
      rcases mem_insR.1 hx with e | hx
      · rw [e]
        refine lt_tri (fun h2 => ?_) (fun e2 => hn y List.mem_cons_self (ky_key.1 e2))
        have := strLt_iff.2 h2
        rw [hc] at this; cases this
      · exact h.1 x hx
theorem sr_filter {l : List Rec} (p : Rec → Bool) (h : SR l) : SR (l.filter p) := List.Pairwise.filter p h
theorem sr_withr {l : List Rec} {r : Rec} (h : SR l) : SR (withr l r) := by
  unfold withr
  cases decide (r.vers.length = 0)
  · exact sr_insR (sr_filter _ h) fun x hx => (mem_oth.1 hx).2
  · exact sr_filter _ h
theorem insR_len (r : Rec) : ∀ l : List Rec, (insR r l).length = l.length + 1
  | [] => rfl
  | x :: l => by unfold insR; cases strLt r.key x.key <;> simp [insR_len r l]
theorem withr_len (l : List Rec) (r : Rec) : (withr l r).length ≤ l.length + 1 := by
  have h1 : (oth r l).length ≤ l.length := List.length_filter_le _ _
  unfold withr
  cases decide (r.vers.length = 0)
  · rw [cond_false, insR_len]; omega
  · rw [cond_true]; omega
theorem oth_cons {r x : Rec} {l : List Rec} : oth r (x :: l) = bif x.key == r.key then oth r l else x :: oth r l := by
  unfold oth
  rw [List.filter_cons]
  cases x.key == r.key <;> rfl
theorem e_With {l : List Rec} {r : Rec} (hl : l.length + 2 ≤ lim) : m_firthref10_With l r = some (withr l r) := by
  unfold m_firthref10_With
  have h0 : (((r.vers.length : Nat) : Int) == 0) = decide (r.vers.length = 0) := by rw [Bool.eq_iff_iff, beq_iff_eq, decide_eq_true_eq]; omega
  rw [h0]
  refine (forI_inv (fun i (s : (List Rec) × Bool) => some (s.1 ++ (bif s.2 then oth r (l.drop i) else insR r (oth r (l.drop i))))) (fun i s => s.1.length + (bif s.2 then 0 else 1) ≤ i + 1) (fun s hI => ?_) (fun f i s hi hI hf => ?_) (by cases decide (r.vers.length = 0) <;> simp)).trans ?_
  · obtain ⟨out, laid⟩ := s
    rw [List.drop_of_length_le (Nat.le_refl _)]
    simp only at hI ⊢
    cases laid
    · simp only [cond_false] at hI
      rw [show decide (out.length + 1 ≤ lim) = true from decide_eq_true (by omega)]
      rfl
    · simp [oth]
  · obtain ⟨out, laid⟩ := s
    simp only at hI hf ⊢
    unfold m_firthref10_With_b10 m_firthref10_With_j13 m_firthref10_With_j11
    simp only
    rw [drop_gt hi, oth_cons]
    generalize gt l i = x
    cases hk : x.key == r.key with
    | true => simp only [cond_true]; exact hf (out, laid) (by cases laid <;> simp_all <;> omega)
    | false =>
      simp only [cond_false]
      cases laid with
      | true =>
        simp only [cond_true] at hI
        simp only [Bool.not_true, Bool.false_and, cond_false, cond_true]
        rw [show decide (out.length + 1 ≤ lim) = true from decide_eq_true (by omega)]
        simp only [chk, cond_true]
        rw [hf (out ++ [x], true) (by simp; omega)]
        simp
      | false =>
        simp only [cond_false] at hI
        simp only [Bool.not_false, Bool.true_and, cond_false]
        unfold insR
        cases hs : strLt r.key x.key with
        | true =>
          simp only [cond_true]
          rw [show decide (out.length + 1 ≤ lim) = true from decide_eq_true (by omega)]
          simp only [chk, cond_true]
          rw [show decide ((out ++ [r]).length + 1 ≤ lim) = true from decide_eq_true (by simp; omega)]
          simp only [cond_true]
          rw [hf (out ++ [r] ++ [x], true) (by simp; omega)]
          simp
        | false =>
          simp only [cond_false]
          rw [show decide (out.length + 1 ≤ lim) = true from decide_eq_true (by omega)]
          simp only [chk, cond_true]
          rw [hf (out ++ [x], false) (by simp; omega)]
          simp
  · simp [withr]
theorem mem_skeys {β : Type} {es : List (ByteArray × β)} {k : ByteArray} : k ∈ skeys es ↔ k ∈ es.map (·.1) := by
  unfold skeys
  simp only [List.mem_map, List.mem_mergeSort]
  constructor
  · rintro ⟨l, ⟨p, hp, rfl⟩, rfl⟩; exact ⟨p, hp, ba_inj (by simp)⟩
  · rintro ⟨p, hp, rfl⟩; exact ⟨_, ⟨p, hp, rfl⟩, ba_inj (by simp)⟩
theorem skeys_srt {β : Type} {es : List (ByteArray × β)} (hn : (es.map (·.1)).Nodup) : (skeys es).Pairwise fun a b => a.data.toList < b.data.toList := by
  unfold skeys
  rw [List.pairwise_map]
  have hs := List.pairwise_mergeSort (le := fun x y : List UInt8 => decide (x ≤ y)) (fun a b c h1 h2 => by
    simp only [decide_eq_true_eq] at *; exact List.le_trans h1 h2) (fun a b => by
    simp only [Bool.or_eq_true, decide_eq_true_eq]; exact List.le_total a b) (es.map (fun p => p.1.data.toList))
  have hnd : ((es.map (fun p => p.1.data.toList)).mergeSort (fun x y => decide (x ≤ y))).Nodup := by
    rw [(List.mergeSort_perm _ _).nodup_iff, show (fun p : ByteArray × β => p.1.data.toList) = ((fun b : ByteArray => b.data.toList) ∘ (·.1)) from rfl, ← List.map_map]
    exact List.Pairwise.map _ (fun a b h e => h (ba_inj e)) hn
  exact (hs.and hnd).imp fun {a b} h => lt_tri (of_decide_eq_true h.1) h.2
theorem lim_v : lim = 2147483648 := rfl
theorem forI_ex {α S R : Type} [Inhabited α] {body : (S → Option R) → Nat → α → S → Option R} {k : S → Option R} {l : List α} (I : Nat → S → Prop) (Q : R → Prop) (hend : ∀ s, I l.length s → ∃ r, k s = some r ∧ Q r)
    (hstep : ∀ f i s, i < l.length → I i s → (∀ s', I (i + 1) s' → ∃ r, f s' = some r ∧ Q r) → ∃ r, body f i (gt l i) s = some r ∧ Q r) {s : S} (h0 : I 0 s) : ∃ r, forI body k 0 l s = some r ∧ Q r := by
  have key : ∀ m i s, l.length - i = m → i ≤ l.length → I i s → ∃ r, forI body k i (l.drop i) s = some r ∧ Q r := by
    intro m
    induction m with
    | zero =>
      intro i s hm hi hI
      have : i = l.length := by omega
      subst this
      rw [List.drop_of_length_le (Nat.le_refl _)]
      exact hend s hI
    | succ m ih =>
      intro i s hm hi hI
      rw [drop_gt (by omega)]
      exact hstep _ i s (by omega) hI fun s' h' => ih (i + 1) s' (by omega) (by omega) h'
  exact key _ 0 s rfl (Nat.zero_le _) h0
theorem forI_run {α S R : Type} [Inhabited α] {body : (S → Option R) → Nat → α → S → Option R} {k : S → Option R} {l : List α} {r : Option R} (I : Nat → S → Prop)
    (hend : ∀ s, I l.length s → k s = r) (hstep : ∀ f i s, i < l.length → I i s → (∀ s', I (i + 1) s' → f s' = r) → body f i (gt l i) s = r) {s : S} (h0 : I 0 s) : forI body k 0 l s = r :=
  forI_inv (fun _ _ => r) I hend hstep h0
theorem int_nf (n : Nat) : (((n : Nat) : Int) != ((n : Nat) : Int)) = false := nat_f rfl
theorem e_SameRecs (a : List Rec) : m_firthref06_SameRecs a a = some true := by
  unfold m_firthref06_SameRecs
  rw [int_nf, cond_false]
  refine forI_run (fun _ _ => True) (fun _ _ => rfl) (fun f i s hi _ hf => ?_) trivial
  unfold m_firthref06_SameRecs_b1
  have h1 : ((gt a i).key != (gt a i).key) = false := by simp
  rw [chk_t (decide_eq_true hi), e_r5Same, gcall_s, Option.bind_some, h1, r5Same_iff.2 rfl]
  exact hf () trivial
def addL (l : List Rec) : List Rec := l.foldl withr []
theorem addL_snoc (l : List Rec) (r : Rec) : addL (l ++ [r]) = withr (addL l) r := by unfold addL; rw [List.foldl_append]; rfl
theorem addL_len (l : List Rec) : (addL l).length ≤ l.length := by
  have : ∀ (l acc : List Rec), (l.foldl withr acc).length ≤ acc.length + l.length := by
    intro l
    induction l with
    | nil => intro acc; exact Nat.le_refl _
    | cons r l ih =>
      intro acc
      rw [List.foldl_cons, List.length_cons]
      have := ih (withr acc r)
      have := withr_len acc r
      omega
  have h := this l []
  simpa [addL] using h
theorem sl_versOk {Γ : Gh} {A : Option Addr} {l : List Ver} (h : Sl verT Γ A l) : VersOk l := by
  refine ⟨h.le, fun v hv => ?_⟩
  obtain ⟨i, hi, rfl⟩ := mem_gt hv
  obtain ⟨A2, c2, h2⟩ := h.verT_at i
  obtain ⟨⟨h3, h4, ⟨_, h5⟩, h6⟩, _⟩ := h2 hi
  refine ⟨⟨h3, h4⟩, h5.le, fun x hx => ?_, h6⟩
  obtain ⟨k, hk, rfl⟩ := mem_gt hx
  exact (h5.spanT_at hk).1.2.1
theorem fits_recOk {Γ : Gh} {A : Option Addr} {c : Nat} {r : Rec} (h : Rec.fits Γ A c r) : RecOk r := ⟨h.1, sl_versOk h.2.2⟩
theorem sl_recOk {Γ : Gh} {A : Option Addr} {l : List Rec} (h : Sl recT Γ A l) : ∀ r ∈ l, RecOk r := fun r hr => by
  obtain ⟨i, hi, rfl⟩ := mem_gt hr
  obtain ⟨A2, c2, h2⟩ := h.recT_at i
  exact fits_recOk (h2 hi).1
theorem rec_bk (r : Rec) : 1 ≤ Rec.bk r := by unfold Rec.bk; omega
theorem recs_len {l : List Rec} (h : bkL Rec.bk l ≤ 1048576) : l.length ≤ 1048576 := Nat.le_trans (bkL_len rec_bk l) h
theorem e_Held_t {l : List Rec} (hok : ∀ r ∈ l, RecOk r) (hl : l.length + 4 ≤ lim) (hr : ∀ r ∈ l, rr r = true) : m_firthref14_Held l = some (addL l, true) := by
  unfold m_firthref14_Held
  refine forI_run (fun i out => out = addL (l.take i)) (fun out h => by rw [h, List.take_length]) (fun f i out hi h hf => ?_) rfl
  have hm := gt_mem hi
  have hlen := addL_len (l.take i)
  rw [List.length_take] at hlen
  unfold m_firthref14_Held_b1
  rw [e_rRec (hok _ hm), Option.bind_some, hr _ hm, Bool.not_true, cond_false, e_With (by rw [h]; omega), Option.bind_some]
  exact hf _ (by rw [take_gt hi, addL_snoc, h])
theorem e_Held_f {l : List Rec} (hok : ∀ r ∈ l, RecOk r) (hl : l.length + 4 ≤ lim) (hr : ∃ r ∈ l, rr r = false) : m_firthref14_Held l = some ([], false) := by
  unfold m_firthref14_Held
  refine forI_run (fun i (out : List Rec) => out.length ≤ i ∧ ∀ j, j < i → rr (gt l j) = true) (fun out h => ?_) (fun f i out hi h hf => ?_) ⟨Nat.le_refl _, fun j hj => absurd hj (Nat.not_lt_zero _)⟩
  · obtain ⟨r, h1, h2⟩ := hr
    obtain ⟨j, hj, rfl⟩ := mem_gt h1
    rw [h.2 j hj] at h2; cases h2
  · have hm := gt_mem hi
    unfold m_firthref14_Held_b1
    rw [e_rRec (hok _ hm), Option.bind_some]
    cases hc : rr (gt l i) with
    | false => rfl
    | true =>
      rw [Bool.not_true, cond_false, e_With (by omega), Option.bind_some]
      refine hf _ ⟨by have := withr_len out (gt l i); omega, fun j hj => ?_⟩
      by_cases e : j = i
      · subst e; exact hc
      · exact h.2 j (by omega)
theorem all_or (l : List Rec) : (∀ r ∈ l, rr r = true) ∨ ∃ r ∈ l, rr r = false := by
  rcases Classical.em (∃ r ∈ l, rr r = false) with h | h
  · exact .inr h
  · refine .inl fun r hm => ?_
    cases hc : rr r with
    | true => rfl
    | false => exact absurd ⟨r, hm, hc⟩ h
theorem e_right1 {r : Rec} (h : RecOk r) : m_mend_right_1 r = some (!rr r) := by
  unfold m_mend_right_1
  rw [e_cRec h, Option.bind_some]
theorem e_right_t {l : List Rec} (hok : ∀ r ∈ l, RecOk r) (hr : ∀ r ∈ l, rr r = true) : m_mend_right l = some true := by
  unfold m_mend_right m_slices_ContainsFunc_api_Rec_api_Rec m_slices_IndexFunc_api_Rec_api_Rec
  have : forI m_slices_IndexFunc_api_Rec_api_Rec_b1 (fun _ => some (-1)) 0 l () = some (-1) := by
    refine forI_run (fun _ _ => True) (fun _ _ => rfl) (fun f i s hi _ hf => ?_) trivial
    unfold m_slices_IndexFunc_api_Rec_api_Rec_b1
    rw [e_right1 (hok _ (gt_mem hi)), Option.bind_some, hr _ (gt_mem hi), Bool.not_true, cond_false]
    exact hf () trivial
  rw [this]; rfl
theorem e_right_f {l : List Rec} (hok : ∀ r ∈ l, RecOk r) (hr : ∃ r ∈ l, rr r = false) : m_mend_right l = some false := by
  unfold m_mend_right m_slices_ContainsFunc_api_Rec_api_Rec m_slices_IndexFunc_api_Rec_api_Rec
  obtain ⟨z, h1, h2⟩ : ∃ z, forI m_slices_IndexFunc_api_Rec_api_Rec_b1 (fun _ => some (-1)) 0 l () = some z ∧ 0 ≤ z := by
    refine forI_ex (fun i _ => ∀ j, j < i → rr (gt l j) = true) (fun z => 0 ≤ z) (fun _ hI => ?_) (fun f i s hi hI hf => ?_) (fun j hj => absurd hj (Nat.not_lt_zero _))
    · obtain ⟨r, h1, h2⟩ := hr
      obtain ⟨j, hj, rfl⟩ := mem_gt h1
      rw [hI j hj] at h2; cases h2
    · unfold m_slices_IndexFunc_api_Rec_api_Rec_b1
      rw [e_right1 (hok _ (gt_mem hi)), Option.bind_some]
      cases hc : rr (gt l i) with
      | false => exact ⟨_, rfl, by omega⟩
      | true =>
        rw [Bool.not_true, cond_false]
        refine hf () fun j hj => ?_
        by_cases e : j = i
        · subst e; exact hc
        · exact hI j (by omega)
  rw [h1, Option.bind_some, Option.bind_some, decide_eq_true h2]; rfl
def gvR (L : List Rec) (k : ByteArray) : List Ver := ((L.find? (fun r => r.key == k)).map Rec.vers).getD []
theorem gvR_cons (x : Rec) (L : List Rec) (k : ByteArray) : gvR (x :: L) k = bif x.key == k then x.vers else gvR L k := by
  unfold gvR
  rw [List.find?_cons]
  cases x.key == k <;> rfl
theorem gvR_none {L : List Rec} {k : ByteArray} (h : ∀ r ∈ L, r.key ≠ k) : gvR L k = [] := by
  unfold gvR
  rw [List.find?_eq_none.2 (fun x hx => by simpa using h x hx)]; rfl
theorem gvR_mem : ∀ {L : List Rec} {r : Rec}, SR L → r ∈ L → gvR L r.key = r.vers := by
  intro L r hs hm
  unfold gvR
  cases hf : L.find? (fun x => x.key == r.key) with
  | none =>
    have := List.find?_eq_none.1 hf r hm
    simp at this
  | some x =>
    have h1 := List.mem_of_find?_eq_some hf
    have h2 : x.key = r.key := by have := List.find?_some hf; simpa using this
    rw [sr_key hs h1 hm h2]; rfl
theorem gvR_withr {L : List Rec} (hs : SR L) (r : Rec) (k : ByteArray) : gvR (withr L r) k = if k = r.key then r.vers else gvR L k := by
  by_cases hk : k = r.key
  · subst hk
    rw [if_pos rfl]
    by_cases hv : r.vers = []
    · rw [hv]
      exact gvR_none fun x hx => by
        rcases mem_withr.1 hx with ⟨_, h⟩ | ⟨_, h⟩
        · exact absurd hv h
        · exact h
    · exact gvR_mem (sr_withr hs) (mem_withr.2 (.inl ⟨rfl, hv⟩))
  · rw [if_neg hk]
    rcases Classical.em (∃ x ∈ L, x.key = k) with ⟨x, hx, he⟩ | hn
    · subst he
      rw [gvR_mem hs hx, gvR_mem (sr_withr hs) (mem_withr.2 (.inr ⟨hx, hk⟩))]
    · rw [gvR_none (fun x hx he => hn ⟨x, hx, he⟩)]
      exact gvR_none fun x hx he => by
        rcases mem_withr.1 hx with ⟨h, _⟩ | ⟨h, _⟩
        · subst h; exact hk he.symm
        · exact hn ⟨x, h, he⟩
theorem foldl_sr : ∀ (l acc : List Rec), SR acc → SR (l.foldl withr acc)
  | [], _, h => h
  | r :: l, acc, h => foldl_sr l _ (sr_withr h)
theorem addL_sr (l : List Rec) : SR (addL l) := foldl_sr l [] List.Pairwise.nil
theorem foldl_mem : ∀ {l acc : List Rec} {x : Rec}, x ∈ l.foldl withr acc → x ∈ l ∨ x ∈ acc
  | [], _, _, h => .inr h
  | r :: l, acc, x, h => by
    rcases foldl_mem (l := l) h with h | h
    · exact .inl (List.mem_cons_of_mem _ h)
    · rcases mem_withr.1 h with ⟨h, _⟩ | ⟨h, _⟩
      · subst h; exact .inl List.mem_cons_self
      · exact .inr h
theorem mem_addL {l : List Rec} {x : Rec} (h : x ∈ addL l) : x ∈ l := by
  rcases foldl_mem h with h | h
  · exact h
  · cases h
theorem vok_nil : VersOk [] := ⟨Nat.zero_le _, fun v h => absurd h List.not_mem_nil⟩
theorem gvR_ok {L : List Rec} (h : ∀ r ∈ L, RecOk r) (k : ByteArray) : VersOk (gvR L k) := by
  unfold gvR
  cases hf : L.find? (fun x => x.key == k) with
  | none => exact vok_nil
  | some x => exact (h x (List.mem_of_find?_eq_some hf)).vers
theorem addL_ok {l : List Rec} (h : ∀ r ∈ l, RecOk r) : ∀ r ∈ addL l, RecOk r := fun r hr => h r (mem_addL hr)
theorem e_Get (L : List Rec) (k : ByteArray) : m_firthref14_Get L k = some (gvR L k) := by
  unfold m_firthref14_Get
  refine (forI_inv (fun i _ => some (gvR (L.drop i) k)) (fun _ _ => True) (fun _ _ => ?_) (fun f i s hi _ hf => ?_) trivial).trans (by rw [List.drop_zero])
  · rw [List.drop_of_length_le (Nat.le_refl _)]; rfl
  · unfold m_firthref14_Get_b1
    rw [hf () trivial, drop_gt hi, gvR_cons]
    cases (gt L i).key == k <;> rfl
structure HeldM (m : List (ByteArray × List Ver)) (L : List Rec) : Prop where
  nk : (m.map (·.1)).Nodup
  get : ∀ k, (mget k m).getD [] = gvR L k
theorem HeldM.put {m : List (ByteArray × List Ver)} {L : List Rec} (h : HeldM m L) (hs : SR L) (r : Rec) : HeldM (mput r.key r.vers m) (withr L r) := by
  refine ⟨mput_nodup h.nk, fun k => ?_⟩
  rw [mget_mput, gvR_withr hs]
  by_cases hk : k = r.key
  · rw [if_pos hk, if_pos hk]; rfl
  · rw [if_neg hk, if_neg hk]; exact h.get k
theorem filter_take {α : Type} [Inhabited α] (p : α → Bool) {l : List α} {i : Nat} (hi : i < l.length) : (l.take (i + 1)).filter p = bif p (gt l i) then (l.take i).filter p ++ [gt l i] else (l.take i).filter p := by
  rw [take_gt hi, List.filter_append, List.filter_cons]
  cases p (gt l i) <;> simp
theorem filter_take_len {α : Type} (p : α → Bool) (l : List α) (i : Nat) : ((l.take i).filter p).length ≤ l.length := Nat.le_trans (List.length_filter_le _ _) (by rw [List.length_take]; omega)
theorem mem_gt_take {α : Type} [Inhabited α] {l : List α} {i : Nat} {x : α} (h : x ∈ l.take i) : x ∈ l := List.mem_of_mem_take h
theorem addL_self {L : List Rec} (hs : SR L) (hv : ∀ r ∈ L, r.vers ≠ []) : addL L = L := by
  refine sr_ext (addL_sr L) hs fun x => ⟨mem_addL, fun hx => ?_⟩
  have key : ∀ i, i ≤ L.length → ∀ x ∈ L.take i, x ∈ addL (L.take i) := by
    intro i
    induction i with
    | zero => intro _ x hx; simp at hx
    | succ i ih =>
      intro hi x hx
      rw [take_gt hi] at hx
      rw [take_gt hi, addL_snoc, mem_withr]
      have hm := gt_mem (show i < L.length by omega)
      by_cases e : x = gt L i
      · exact .inl ⟨e, hv _ hm⟩
      · rcases List.mem_append.1 hx with h | h
        · refine .inr ⟨ih (by omega) x h, fun hk => e (sr_key hs (mem_gt_take h) hm hk)⟩
        · rw [List.mem_singleton] at h; exact absurd h e
  have := key L.length (Nat.le_refl _) x (by rw [List.take_length]; exact hx)
  rwa [List.take_length] at this
theorem foldl_vers : ∀ {l acc : List Rec}, (∀ x ∈ acc, x.vers ≠ []) → ∀ x ∈ l.foldl withr acc, x.vers ≠ []
  | [], _, h, x, hx => h x hx
  | r :: l, acc, h, x, hx => foldl_vers (l := l) (acc := withr acc r) (fun y hy => by
      rcases mem_withr.1 hy with ⟨h1, h2⟩ | ⟨h1, _⟩
      · rw [h1]; exact h2
      · exact h y h1) x hx
theorem addL_vers (l : List Rec) : ∀ x ∈ addL l, x.vers ≠ [] := foldl_vers (fun x h => absurd h List.not_mem_nil)
theorem merge_nil (l : List Ver) : r5Merge l [] = bif r5Right l then (l, 0) else ([], 1) := by
  unfold r5Merge
  have h0 : r5Right [] = true := by decide
  rw [h0]
  cases h : r5Right l
  · rfl
  · simp only [Bool.not_true, Bool.or_self, cond_false, cond_true]
    have ht : r5Twin l [] = false := by
      cases h2 : r5Twin l []
      · rfl
      · obtain ⟨_, _, z, hz, _⟩ := r5Twin_iff.1 h2; cases hz
    obtain ⟨h1, _, h3⟩ := right_iff h
    have hf : r5Fold [] l (r5Fold l [] []) = l := by
      show r5Fold l [] [] = l
      refine srt_ext (fold_srt (by simp [Srt])) h3 fun y => ⟨fun hy => ?_, fun hy => ?_⟩
      · rcases fold_sub hy with h | ⟨h, _⟩
        · cases h
        · exact h
      · exact fold_new (fun p hp q hq hd => srt_inj h3 hp hq hd) (by simp) hy rfl
    rw [ht, cond_false, hf]
    have hd : decide ((512 : Int) < (l.length : Int)) = false := by rw [decide_eq_false_iff_not]; omega
    rw [hd]; rfl
theorem behind_f {l : List Ver} {d : Dot} : r5Behind l d = false ↔ ∀ z ∈ l, r3Has z.past d = false := by
  induction l with
  | nil => simp [r5Behind]
  | cons x l ih => simp [r5Behind, ih]
theorem right_of {l : List Ver} (h1 : l.length ≤ 512) (h2 : ∀ x ∈ l, r5RightOne x = true ∧ r5Behind l x.dot = false) (h3 : Srt l) : r5Right l = true := by
  unfold r5Right
  rw [show decide (512 < l.length) = false by rw [decide_eq_false_iff_not]; omega, cond_false, all0_iff]
  intro i hi
  obtain ⟨h4, h5⟩ := h2 _ (gt_mem hi)
  rw [h4, h5]
  cases i with
  | zero => rfl
  | succ i =>
    have := List.pairwise_iff_getElem.1 h3 i (i + 1) (by omega) hi (by omega)
    rw [Nat.add_sub_cancel, gt_eq hi, gt_eq (by omega : i < l.length), this]
    simp
structure Made (U : List Ver) : Prop where
  one : ∀ x ∈ U, ∀ z ∈ U, x.dot = z.dot → x = z
  lt : ∀ x ∈ U, ∀ z ∈ U, r3Has x.past z.dot = true → r3Has z.past x.dot = false ∧ ∀ d, r3Has z.past d = true → r3Has x.past d = true
theorem fold_mem {a b : List Ver} (ha : r5Right a = true) (hb : r5Right b = true) (ht : ¬ Twin a b) {y : Ver} : y ∈ r5Fold b a (r5Fold a b []) ↔ (y ∈ a ∨ y ∈ b) ∧ r5Behind a y.dot = false ∧ r5Behind b y.dot = false := by
  rw [← merge_lists ha hb ht]
  obtain ⟨_, ha1, ha2⟩ := right_iff ha
  obtain ⟨_, hb1, hb2⟩ := right_iff hb
  have hk : kept a b y = true ↔ r5Behind a y.dot = false ∧ r5Behind b y.dot = false := by unfold kept; simp
  rw [← hk]
  constructor
  · intro h
    rcases go_sub h with h | h
    · cases h
    · exact h
  · intro h; exact go_has ha2 hb2 (Nat.le_refl _) ht (.inr h)
section
variable {U : List Ver} (hU : Made U) (hn : U.length ≤ 512)
end
theorem merge_0 {a b : List Ver} (h : (r5Merge a b).2 = 0) : r5Right a = true ∧ r5Right b = true ∧ ¬ Twin a b ∧ (r5Merge a b).1 = r5Fold b a (r5Fold a b []) ∧ (r5Merge a b).1.length ≤ 512 := by
  have hlen := merge_len a b
  unfold r5Merge at h hlen ⊢
  cases ha : r5Right a with
  | false => rw [ha] at h; exact absurd (show (1 : Int) = 0 from h) (by decide)
  | true =>
    cases hb : r5Right b with
    | false => rw [ha, hb] at h; exact absurd (show (1 : Int) = 0 from h) (by decide)
    | true =>
      rw [ha, hb] at h hlen
      simp only [Bool.not_true, Bool.or_self, cond_false] at h hlen ⊢
      cases ht : r5Twin a b with
      | true => rw [ht] at h; exact absurd (show (50 : Int) = 0 from h) (by decide)
      | false =>
        rw [ht] at h hlen
        simp only [cond_false] at h hlen ⊢
        cases hl : decide ((512 : Int) < ((r5Fold b a (r5Fold a b [])).length : Int)) with
        | true => rw [hl] at h; exact absurd (show (3 : Int) = 0 from h) (by decide)
        | false =>
          rw [hl] at hlen
          simp only [cond_false] at hlen ⊢
          exact ⟨trivial, trivial, fun h => absurd (r5Twin_iff.2 h) (by rw [ht]; decide), trivial, hlen⟩
theorem merged {a b : List Ver} (h : (r5Merge a b).2 = 0) : Srt (r5Merge a b).1 ∧ r5Right (r5Merge a b).1 = true ∧ ∀ y, y ∈ (r5Merge a b).1 ↔ (y ∈ a ∨ y ∈ b) ∧ r5Behind a y.dot = false ∧ r5Behind b y.dot = false := by
  obtain ⟨ha, hb, ht, he, hl⟩ := merge_0 h
  have hm := fun y => fold_mem ha hb ht (y := y)
  have hs : Srt (r5Fold b a (r5Fold a b [])) := fold_srt (fold_srt (by simp [Srt]))
  rw [he] at hl ⊢
  refine ⟨hs, right_of hl (fun x hx => ?_) hs, hm⟩
  obtain ⟨h1, h2, h3⟩ := (hm x).1 hx
  refine ⟨h1.elim (fun h => ((right_iff ha).2.1 x h).1) (fun h => ((right_iff hb).2.1 x h).1), ?_⟩
  rw [behind_f]
  intro z hz
  exact ((hm z).1 hz).1.elim (fun h => behind_f.1 h2 z h) (fun h => behind_f.1 h3 z h)
theorem rr_right {r : Rec} (h : rr r = true) : r5Right r.vers = true := by
  unfold rr at h
  exact (Bool.and_eq_true_iff.1 h).2
theorem gvR_ne {L : List Rec} {k : ByteArray} (h : gvR L k ≠ []) : ∃ x ∈ L, x.key = k := by
  rcases Classical.em (∃ x ∈ L, x.key = k) with h2 | h2
  · exact h2
  · exact absurd (gvR_none fun x hx he => h2 ⟨x, hx, he⟩) h
theorem rec_eq {x y : Rec} (h1 : x.key = y.key) (h2 : x.vers = y.vers) : x = y := by
  cases x; cases y
  simp only at h1 h2
  rw [h1, h2]
theorem mem_gv {a b : List Rec} (ha : SR a) (hb : SR b) (va : ∀ r ∈ a, r.vers ≠ []) {x : Rec} (hx : x ∈ a) (h : gvR a x.key = gvR b x.key) : x ∈ b := by
  have h1 := gvR_mem ha hx
  obtain ⟨y, hy, he⟩ := gvR_ne (L := b) (k := x.key) (by rw [← h, h1]; exact va x hx)
  have h2 := gvR_mem hb hy
  rw [he, ← h, h1] at h2
  rw [rec_eq he.symm h2]; exact hy
theorem list_ext {a b : List Rec} (ha : SR a) (hb : SR b) (va : ∀ r ∈ a, r.vers ≠ []) (vb : ∀ r ∈ b, r.vers ≠ []) (h : ∀ k, gvR a k = gvR b k) : a = b :=
  sr_ext ha hb fun x => ⟨fun hx => mem_gv ha hb va hx (h _), fun hx => mem_gv hb ha vb hx (h _).symm⟩
def stepN (L : List Rec) (r : Rec) : List Rec := bif ((r5Merge (gvR L r.key) r.vers).2 == 0) then withr L ⟨r.key, (r5Merge (gvR L r.key) r.vers).1⟩ else L
structure NI (L : List Rec) : Prop where
  sr : SR L
  ve : ∀ r ∈ L, r.vers ≠ []
  ok : ∀ r ∈ L, RecOk r
theorem NI.step {L : List Rec} (h : NI L) {r : Rec} (hr : RecOk r) : NI (stepN L r) := by
  unfold stepN
  cases (r5Merge (gvR L r.key) r.vers).2 == 0 with
  | false => exact h
  | true =>
    rw [cond_true]
    refine ⟨foldl_sr [_] L h.sr, foldl_vers (l := [_]) h.ve, fun x hx => ?_⟩
    rcases foldl_mem (l := [_]) (acc := L) hx with hx | hx
    · rw [List.mem_singleton.1 hx]; exact ⟨hr.1, merge_ok (gvR_ok h.ok _) hr.vers⟩
    · exact h.ok x hx
theorem stepN_len (L : List Rec) (r : Rec) : (stepN L r).length ≤ L.length + 1 := by
  unfold stepN
  cases (r5Merge (gvR L r.key) r.vers).2 == 0 with
  | false => exact Nat.le_succ _
  | true => rw [cond_true]; exact withr_len _ _
def nowL (A T : List Rec) : List Rec := T.foldl stepN A
theorem nowL_snoc (A T : List Rec) (r : Rec) : nowL A (T ++ [r]) = stepN (nowL A T) r := by unfold nowL; rw [List.foldl_append]; rfl
theorem nowL_ni {A : List Rec} (h : NI A) : ∀ (n : Nat) (T : List Rec), T.length = n → (∀ r ∈ T, RecOk r) → NI (nowL A T) ∧ (nowL A T).length ≤ A.length + T.length
  | 0, T, hn, _ => by
    have : T = [] := List.eq_nil_of_length_eq_zero hn
    subst this; exact ⟨h, Nat.le_refl _⟩
  | n + 1, T, hn, hT => by
    rcases List.eq_nil_or_concat T with rfl | ⟨T', r, rfl⟩
    · cases hn
    · rw [List.concat_eq_append] at *
      rw [List.length_append, List.length_singleton] at hn
      obtain ⟨h1, h2⟩ := nowL_ni h n T' (by omega) (fun x hx => hT x (List.mem_append_left _ hx))
      rw [nowL_snoc]
      refine ⟨h1.step (hT r (List.mem_append_right _ (List.mem_singleton.2 rfl))), ?_⟩
      have := stepN_len (nowL A T') r
      rw [List.length_append, List.length_singleton]; omega
theorem addL_ni {l : List Rec} (h : ∀ r ∈ l, RecOk r) : NI (addL l) := ⟨addL_sr l, addL_vers l, addL_ok h⟩
theorem gvR_in {L : List Rec} {k : ByteArray} (h : gvR L k ≠ []) : (⟨k, gvR L k⟩ : Rec) ∈ L := by
  unfold gvR at *
  cases hf : L.find? (fun x => x.key == k) with
  | none => rw [hf] at h; exact absurd rfl h
  | some x =>
    have h1 := List.mem_of_find?_eq_some hf
    have h2 : x.key = k := by simpa using List.find?_some hf
    simp only [Option.map_some, Option.getD_some]
    rw [← h2]; exact h1
theorem sr_same {a b : List Rec} (ha : SR a) (hb : SR b) (va : ∀ r ∈ a, r.vers ≠ []) (vb : ∀ r ∈ b, r.vers ≠ []) (h : ∀ x, x ∈ a ↔ x ∈ b) : a = b := by
  refine list_ext ha hb va vb fun k => ?_
  by_cases hk : gvR a k = []
  · by_cases hk2 : gvR b k = []
    · rw [hk, hk2]
    · have := gvR_mem ha ((h _).2 (gvR_in hk2))
      exact this
  · have := gvR_mem hb ((h _).1 (gvR_in hk))
    exact this.symm
theorem mput_len {α : Type} (k : ByteArray) (v : α) : ∀ m : List (ByteArray × α), (mput k v m).length ≤ m.length + 1
  | [] => Nat.le_refl _
  | p :: m => by
    have ih := mput_len k v m
    unfold mput
    split
    · simp
    · simp only [List.length_cons]; omega
theorem e_heldL (l : List Rec) : ∃ m, m_mend_held l = some m ∧ HeldM m (addL l) ∧ m.length ≤ l.length := by
  unfold m_mend_held
  refine forI_ex (body := m_mend_held_b1) (fun i m => HeldM m (addL (l.take i)) ∧ m.length ≤ i) (fun m => HeldM m (addL l) ∧ m.length ≤ l.length) (fun m h => ⟨m, rfl, by have := h.1; rw [List.take_length] at this; exact ⟨this, h.2⟩⟩) (fun f i m hi h hf => ?_) ⟨⟨List.nodup_nil, fun k => rfl⟩, Nat.le_refl _⟩
  unfold m_mend_held_b1
  refine hf _ ⟨?_, ?_⟩
  · rw [take_gt hi, addL_snoc]; exact h.1.put (addL_sr _) _
  · have := mput_len (gt l i).key (gt l i).vers m; omega
def tcG (A N : List Rec) (k : ByteArray) : Bool := decide (0 < (((gvR N k).length : Nat) : Int)) && !(r5Same (gvR N k) (gvR A k))
theorem e_TakeG {A T : List Rec} (hokA : ∀ r ∈ A, RecOk r) (hrA : ∀ r ∈ A, rr r = true) (hlA : A.length ≤ 4194304) (hokT : ∀ r ∈ T, RecOk r) (hrT : ∀ r ∈ T, rr r = true) (hlT : T.length ≤ 4194304) :
    ∃ out, m_mend_Take A T = some (out, 0) ∧ SR out ∧ ∀ x, x ∈ out ↔ (x.vers = gvR (nowL (addL A) T) x.key ∧ tcG (addL A) (nowL (addL A) T) x.key = true) := by
  unfold m_mend_Take
  rw [e_right_t hokA hrA, Option.bind_some, e_right_t hokT hrT, gcall_s, Option.bind_some]
  simp only [Bool.not_true, Bool.not_false, cond_true, Bool.or_self, cond_false]
  obtain ⟨m0, h1, h2, h3⟩ := e_heldL A
  rw [h1, Option.bind_some, Option.bind_some]
  have hNA := addL_ni hokA
  generalize hL : addL A = L at *
  obtain ⟨N, hN⟩ : ∃ N, N = nowL L T := ⟨_, rfl⟩
  rw [← hN]
  obtain ⟨r, e1, out, e2, e3, e4⟩ := forI_ex (body := m_mend_Take_b4) (k := fun m29 => chk (decide (m29.length ≤ lim)) (forI (m_mend_Take_b9 m0 m29) (fun out_84 => some (out_84, (0 : Int))) 0 (skeys m29) [])) (l := T) (s := m0) (fun i m => HeldM m (nowL L (T.take i)) ∧ m.length ≤ A.length + i) (fun r => ∃ out, r = (out, (0 : Int)) ∧ SR out ∧ ∀ x, x ∈ out ↔ (x.vers = gvR N x.key ∧ tcG L N x.key = true)) (fun m hI => by
    obtain ⟨hI, hlm⟩ := hI
    rw [List.take_length, ← hN] at hI
    rw [chk_t (decide_eq_true (by rw [lim_v]; omega))]
    have hkl : (skeys m).length = m.length := skeys_len m
    refine ⟨(((skeys m).filter (tcG L N)).map (fun k => (⟨k, gvR N k⟩ : Rec)), 0), ?_, _, rfl, ?_, fun x => ?_⟩
    · refine forI_run (fun i out => out = (((skeys m).take i).filter (tcG L N)).map (fun k => (⟨k, gvR N k⟩ : Rec))) (fun out h => by rw [h, List.take_length]) (fun f i out hi h hf => ?_) rfl
      have hol : out.length ≤ m.length := by
        rw [h, List.length_map, ← hkl]; exact filter_take_len _ _ _
      have hst := filter_take (tcG L N) hi
      unfold m_mend_Take_b9 m_mend_Take_j10
      have hg : (mget (gt (skeys m) i) m).getD [] = gvR N (gt (skeys m) i) := hI.get _
      rw [hg, h2.get, e_vsSameL, sameL_eq, gcall_s, Option.bind_some]
      have hb : (decide (0 < (((gvR N (gt (skeys m) i)).length : Nat) : Int)) && !(bif decide (0 < (((gvR N (gt (skeys m) i)).length : Nat) : Int)) then r5Same (gvR N (gt (skeys m) i)) (gvR L (gt (skeys m) i)) else default)) = tcG L N (gt (skeys m) i) := by
        unfold tcG
        cases decide (0 < (((gvR N (gt (skeys m) i)).length : Nat) : Int)) <;> rfl
      rw [hb]
      cases hc : tcG L N (gt (skeys m) i) with
      | true =>
        rw [cond_true, chk_t (decide_eq_true (by rw [lim_v]; omega))]
        refine hf _ ?_
        rw [hst, hc, cond_true, List.map_append, ← h]; rfl
      | false =>
        rw [cond_false]
        refine hf _ ?_
        rw [hst, hc, cond_false, h]
    · unfold SR
      rw [List.pairwise_map]
      exact List.Pairwise.filter _ (skeys_srt hI.nk)
    · simp only [List.mem_map, List.mem_filter]
      constructor
      · rintro ⟨k, ⟨_, hk⟩, rfl⟩; exact ⟨rfl, hk⟩
      · rintro ⟨hx, hk⟩
        refine ⟨x.key, ⟨?_, hk⟩, by rw [← hx]⟩
        have hne : gvR N x.key ≠ [] := fun e => by
          unfold tcG at hk
          rw [e] at hk; simp at hk
        rw [mem_skeys]
        cases hm : mget x.key m with
        | none => exact absurd (show gvR N x.key = [] by rw [← hI.get, hm]; rfl) hne
        | some v => exact List.mem_map.2 ⟨_, mget_mem hm, rfl⟩) (fun f i m hi hI hf => by
    obtain ⟨hI, hlm⟩ := hI
    have hrm := gt_mem hi
    have hni := (nowL_ni hNA _ (T.take i) rfl (fun x hx => hokT x (List.mem_of_mem_take hx))).1
    have hst : nowL L (T.take (i + 1)) = stepN (nowL L (T.take i)) (gt T i) := by rw [take_gt hi, nowL_snoc]
    unfold m_mend_Take_b4 m_mend_Take_j5
    rw [hI.get, e_Merge (gvR_ok hni.ok _) (hokT _ hrm).vers, Option.bind_some, merge_eq]
    unfold stepN at hst
    cases hc : (r5Merge (gvR (nowL L (T.take i)) (gt T i).key) (gt T i).vers).2 == 0 with
    | true =>
      rw [hc, cond_true] at hst
      rw [cond_true]
      refine hf _ ⟨?_, ?_⟩
      · rw [hst]; exact hI.put hni.sr ⟨(gt T i).key, (r5Merge (gvR (nowL L (T.take i)) (gt T i).key) (gt T i).vers).1⟩
      · have := mput_len (gt T i).key (r5Merge (gvR (nowL L (T.take i)) (gt T i).key) (gt T i).vers).1 m; omega
    | false =>
      rw [hc, cond_false] at hst
      rw [cond_false]
      exact hf _ ⟨by rw [hst]; exact hI, by omega⟩) ⟨h2, by omega⟩
  subst e2
  exact ⟨out, e1, e3, e4⟩
theorem e_rTakeG {A T : List Rec} (hokA : ∀ r ∈ A, RecOk r) (hrA : ∀ r ∈ A, rr r = true) (hlA : A.length ≤ 4194304) (hokT : ∀ r ∈ T, RecOk r) (hrT : ∀ r ∈ T, rr r = true) (hlT : T.length ≤ 4194304) :
    m_firthref14_Take A T = some ((nowL (addL A) T).filter (fun x => !(r5Same x.vers (gvR (addL A) x.key))), 0) := by
  unfold m_firthref14_Take
  rw [e_Held_t hokA (by rw [lim_v]; omega) hrA, Option.bind_some]
  simp only [Bool.not_true, cond_false]
  rw [e_Held_t hokT (by rw [lim_v]; omega) hrT, Option.bind_some]
  simp only [Bool.not_true, cond_false]
  have hNA := addL_ni hokA
  have hAl := addL_len A
  generalize addL A = L at *
  refine forI_run (fun i s => s = (L, nowL L (T.take i))) (fun s h => ?_) (fun f i s hi h hf => ?_) rfl
  · rw [h, List.take_length]
    have hl := (nowL_ni hNA _ T rfl hokT).2
    generalize nowL L T = N at *
    simp only
    refine forI_run (fun i out => out = (N.take i).filter (fun x => !(r5Same x.vers (gvR L x.key)))) (fun out h => by rw [h, List.take_length]) (fun f i out hi h hf => ?_) rfl
    have hol : out.length ≤ N.length := by rw [h]; exact filter_take_len _ _ _
    have hst := filter_take (fun x => !(r5Same x.vers (gvR L x.key))) hi
    unfold m_firthref14_Take_b9 m_firthref14_Take_j10
    rw [e_Get, Option.bind_some, e_r5Same, Option.bind_some]
    cases hc : r5Same (gt N i).vers (gvR L (gt N i).key) with
    | false =>
      rw [Bool.not_false, cond_true, chk_t (decide_eq_true (by rw [lim_v]; omega))]
      refine hf _ ?_
      rw [hst, hc, Bool.not_false, cond_true, ← h]
    | true =>
      rw [Bool.not_true, cond_false]
      refine hf _ ?_
      rw [hst, hc, Bool.not_true, cond_false, h]
  · subst h
    have hrm := gt_mem hi
    obtain ⟨hni, hl⟩ := nowL_ni hNA _ (T.take i) rfl (fun x hx => hokT x (List.mem_of_mem_take hx))
    have hst : nowL L (T.take (i + 1)) = stepN (nowL L (T.take i)) (gt T i) := by rw [take_gt hi, nowL_snoc]
    have hl2 : (T.take i).length ≤ T.length := by rw [List.length_take]; omega
    unfold m_firthref14_Take_b4 m_firthref14_Take_j5
    simp only
    rw [e_Get, Option.bind_some, e_r5Merge (gvR_ok hni.ok _) (hokT _ hrm).vers, Option.bind_some]
    unfold stepN at hst
    cases hc : (r5Merge (gvR (nowL L (T.take i)) (gt T i).key) (gt T i).vers).2 == 0 with
    | true =>
      rw [hc, cond_true] at hst
      rw [cond_true, e_With (by rw [lim_v]; omega), Option.bind_some]
      exact hf _ (by rw [hst])
    | false =>
      rw [hc, cond_false] at hst
      rw [cond_false]
      exact hf _ (by rw [hst])
theorem e_TakeB {A T : List Rec} (hokA : ∀ r ∈ A, RecOk r) (hlA : A.length ≤ 1048576) (hokT : ∀ r ∈ T, RecOk r) (hlT : T.length ≤ 1048576) : ∃ z, m_mend_Take A T = some z ∧ m_firthref14_Take A T = some z := by
  rcases all_or A with hA | hA
  · rcases all_or T with hT | hT
    · obtain ⟨out, h1, h2, h3⟩ := e_TakeG hokA hA (by omega) hokT hT (by omega)
      refine ⟨_, h1, ?_⟩
      rw [e_rTakeG hokA hA (by omega) hokT hT (by omega)]
      obtain ⟨hni, _⟩ := nowL_ni (addL_ni hokA) _ T rfl hokT
      generalize nowL (addL A) T = N at *
      generalize addL A = L at *
      congr 2
      refine sr_same (List.Pairwise.filter _ hni.sr) h2 (fun r hr => hni.ve r (List.mem_filter.1 hr).1) (fun r hr => ?_) (fun x => ?_)
      · have h4 := (h3 r).1 hr
        rw [h4.1]
        intro e
        have := h4.2
        unfold tcG at this
        rw [e] at this; simp at this
      · rw [h3, List.mem_filter]
        constructor
        · rintro ⟨hx, hs⟩
          have hg := gvR_mem hni.sr hx
          refine ⟨hg.symm, ?_⟩
          unfold tcG
          rw [hg, Bool.and_eq_true]
          refine ⟨decide_eq_true ?_, hs⟩
          have := hni.ve x hx
          have := List.length_pos_iff.2 this
          omega
        · rintro ⟨hx, hs⟩
          unfold tcG at hs
          rw [Bool.and_eq_true] at hs
          have hne : gvR N x.key ≠ [] := fun e => by
            have := hs.1
            rw [e] at this; simp at this
          have hm := gvR_in hne
          rw [← hx] at hm hs
          exact ⟨hm, hs.2⟩
    · refine ⟨([], 1), ?_, ?_⟩
      · unfold m_mend_Take
        rw [e_right_t hokA hA, Option.bind_some, e_right_f hokT hT, gcall_s, Option.bind_some]; rfl
      · unfold m_firthref14_Take
        rw [e_Held_t hokA (by rw [lim_v]; omega) hA, Option.bind_some]
        simp only [Bool.not_true, cond_false]
        rw [e_Held_f hokT (by rw [lim_v]; omega) hT, Option.bind_some]; rfl
  · refine ⟨([], 1), ?_, ?_⟩
    · unfold m_mend_Take
      rw [e_right_f hokA hA, Option.bind_some]
      rcases all_or T with hT | hT
      · rw [e_right_t hokT hT, gcall_s, Option.bind_some]; rfl
      · rw [e_right_f hokT hT, gcall_s, Option.bind_some]; rfl
    · unfold m_firthref14_Take
      rw [e_Held_f hokA (by rw [lim_v]; omega) hA, Option.bind_some]; rfl
theorem awake16 : m_firthlaw16_awake = some true := by kernel_rfl
end Fw
end Go.Proofs.Ytlgahohnbkkoiaa
