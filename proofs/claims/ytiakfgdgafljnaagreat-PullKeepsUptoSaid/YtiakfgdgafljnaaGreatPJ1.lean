/- The plain side: what the models come to. No condition. -/
import Derived.Test.YtiakfgdgafljnaaGreatM
namespace Go.Proofs.YtiakfgdgafljnaaGreat
namespace Fw
set_option linter.unusedVariables false
set_option linter.unusedSimpArgs false
set_option linter.unusedSectionVars false
def allFrom (p : Nat → Bool) (k n : Nat) : Bool := (List.range' k (n - k)).all p
theorem allFrom_step {p : Nat → Bool} {k n : Nat} (h : k < n) : allFrom p k n = (p k && allFrom p (k + 1) n) := by
  unfold allFrom
  rw [show n - k = (n - (k + 1)) + 1 by omega, List.range'_succ]; rfl
theorem allFrom_end {p : Nat → Bool} {k n : Nat} (h : n ≤ k) : allFrom p k n = true := by
  unfold allFrom
  rw [show n - k = 0 by omega]; rfl
def spHas : List Span → Dot → Bool
  | [], _ => false
  | x :: l, d => ((x.s == d.s) && decide (x.f ≤ d.n)) && decide (d.n ≤ x.t) || spHas l d
def r3Has : List Span → Dot → Bool
  | [], _ => false
  | x :: l, d => ((x.s == d.s) && decide (x.f ≤ d.n)) && decide (d.n ≤ x.t) || r3Has l d
def spBad (x last : Span) : Bool :=
  ((((((decide (x.s < 1) || decide (16 < x.s)) || decide (x.f < 1)) || decide (x.t < x.f)) || decide (4611686018427387904 < x.t)) || decide (x.s < last.s)) || ((x.s == last.s) && decide (x.f ≤ (last.t + 1))))
def spGo : List Span → Span → Bool
  | [], _ => true
  | x :: l, last => bif spBad x last then false else spGo l x
def spRight (l : List Span) : Bool := spGo l ⟨0, 0, 0⟩ && decide ((l.length : Int) ≤ 1024)
def spTopGo : List Span → Int → Int → Int
  | [], _, top => top
  | x :: l, s, top => spTopGo l s (bif x.s == s then max top x.t else top)
def spTop (l : List Span) (s : Int) : Int := spTopGo l s 0
def r3Dot (d : Dot) : Bool := (((decide (1 ≤ d.s) && decide (d.s ≤ 16)) && decide (1 ≤ d.n)) && decide (d.n ≤ 4611686018427387904))
theorem r3Dot_t {d : Dot} (h : r3Dot d = true) : 1 ≤ d.s ∧ d.s ≤ 16 ∧ 1 ≤ d.n ∧ d.n ≤ 4611686018427387904 := by simp [r3Dot] at h; omega
def r3One (x : Span) : Bool := (((!(r3Dot ⟨x.s, x.f⟩)) || (!(r3Dot ⟨x.s, x.t⟩))) || decide (x.t < x.f))
def r3Two (p x : Span) : Bool := (decide (x.s < p.s) || ((x.s == p.s) && decide ((x.f - 1) ≤ p.t)))
def r3Right (l : List Span) : Bool := bif decide (1024 < l.length) then false else allFrom (fun i => !(r3One (gt l i)) && !(decide (0 < (i : Int)) && r3Two (gt l (i - 1)) (gt l i))) 0 l.length
def r3TopGo : List Span → Int → Int → Int
  | [], _, n => n
  | x :: l, s, n => r3TopGo l s (bif (x.s == s) && decide (n < x.t) then x.t else n)
def r3Top (l : List Span) (s : Int) : Int := r3TopGo l s 0
def r3Same (a b : List Span) : Bool := bif a.length == b.length then allFrom (fun i => gt a i == gt b i) 0 a.length else false
def r5Less (a b : Dot) : Bool := bif a.s != b.s then decide (a.s < b.s) else decide (a.n < b.n)
def r5RightOne (v : Ver) : Bool := bif (((!(r3Dot v.dot)) || (!(r3Right v.past))) || decide (v.dot.n ≤ r3Top v.past v.dot.s)) then false else bif v.gone then v.val == ⟨#[]⟩ else decide ((v.val.size : Int) ≤ 256)
def r5Behind : List Ver → Dot → Bool
  | [], _ => false
  | v :: l, d => r3Has v.past d || r5Behind l d
def r5Right (l : List Ver) : Bool := bif decide (512 < l.length) then false else allFrom (fun i => !((!(r5RightOne (gt l i))) || r5Behind l (gt l i).dot) && !(decide (0 < (i : Int)) && !(r5Less (gt l (i - 1)).dot (gt l i).dot))) 0 l.length
def r5SameOne (a b : Ver) : Bool := (((a.dot == b.dot) && (a.gone == b.gone)) && (a.val == b.val)) && r3Same a.past b.past
def r5Same (a b : List Ver) : Bool := bif a.length == b.length then allFrom (fun i => r5SameOne (gt a i) (gt b i)) 0 a.length else false
def vsBefore (a b : Dot) : Bool := (decide (a.s < b.s) || ((a.s == b.s) && decide (a.n < b.n)))
def vsBehind : Dot → List Ver → Bool
  | _, [] => false
  | d, v :: l => spHas v.past d || vsBehind d l
def vsRightOne (v : Ver) : Bool := (((((spRight [⟨v.dot.s, v.dot.n, v.dot.n⟩]) && (spRight v.past)) && decide (spTop v.past v.dot.s < v.dot.n)) && decide ((v.val.size : Int) ≤ 256)) && ((!v.gone) || (v.val == ⟨#[]⟩)))
def vsRight (l : List Ver) : Bool := allFrom (fun i => !(((!(vsRightOne (gt l i))) || (decide (0 < (i : Int)) && (!(vsBefore (gt l (i - 1)).dot (gt l i).dot)))) || vsBehind (gt l i).dot l)) 0 l.length && decide ((l.length : Int) ≤ 512)
theorem r5Right_len {l : List Ver} (h : r5Right l = true) : l.length ≤ 512 := by
  unfold r5Right at h
  by_cases hl : 512 < l.length
  · simp [hl] at h
  · omega
theorem all0_iff {p : Nat → Bool} {n : Nat} : allFrom p 0 n = true ↔ ∀ i, i < n → p i = true := by
  unfold allFrom
  rw [List.all_eq_true]
  simp only [List.mem_range'_1, Nat.zero_le, true_and, Nat.sub_zero, Nat.zero_add]
theorem allFrom_congr {p q : Nat → Bool} {n : Nat} (h : ∀ i, i < n → p i = q i) : allFrom p 0 n = allFrom q 0 n := by
  rw [Bool.eq_iff_iff, all0_iff, all0_iff]
  exact ⟨fun h1 i hi => (h i hi) ▸ h1 i hi, fun h1 i hi => (h i hi) ▸ h1 i hi⟩
theorem gt_map {α β : Type} [Inhabited α] [Inhabited β] (f : α → β) {l : List α} {i : Nat} (h : i < l.length) : gt (l.map f) i = f (gt l i) := by
  rw [gt_eq (by simpa using h), gt_eq h]; simp
theorem gt_mem {α : Type} [Inhabited α] {l : List α} {i : Nat} (h : i < l.length) : gt l i ∈ l := by rw [gt_eq h]; exact List.getElem_mem h
theorem mem_gt {α : Type} [Inhabited α] {l : List α} {x : α} (h : x ∈ l) : ∃ i, i < l.length ∧ gt l i = x := by
  obtain ⟨i, hi, rfl⟩ := List.getElem_of_mem h
  exact ⟨i, hi, gt_eq hi⟩
theorem less_eq (a b : Dot) : vsBefore a b = r5Less a b := by
  unfold vsBefore r5Less
  by_cases h : a.s = b.s
  · simp [h]
  · have h1 : (a.s != b.s) = true := by simpa using h
    have h2 : (a.s == b.s) = false := by simpa using h
    simp [h1, h2]
theorem has_eq : ∀ (l : List Span) (d : Dot), spHas l d = r3Has l d
  | [], _ => rfl
  | x :: l, d => by rw [spHas, r3Has, has_eq l d]
theorem topGo_eq : ∀ (l : List Span) (s t : Int), spTopGo l s t = r3TopGo l s t
  | [], _, _ => rfl
  | x :: l, s, t => by
    rw [spTopGo, r3TopGo, topGo_eq l]
    congr 1
    by_cases h : x.s = s
    · by_cases h2 : t < x.t
      · simp [h, h2]; omega
      · simp [h, h2]; omega
    · have : (x.s == s) = false := by simpa using h
      simp [this]
theorem top_eq (l : List Span) (s : Int) : spTop l s = r3Top l s := topGo_eq l s 0
theorem behind_eq : ∀ (d : Dot) (l : List Ver), vsBehind d l = r5Behind l d
  | _, [] => rfl
  | d, v :: l => by rw [vsBehind, r5Behind, has_eq, behind_eq d l]
def pchk {α : Type} (p : α → Bool) (q : α → α → Bool) : Option α → List α → Bool
  | _, [] => true
  | none, x :: l => p x && pchk p q (some x) l
  | some y, x :: l => (p x && q y x) && pchk p q (some x) l
theorem allFrom_chk {α : Type} [Inhabited α] (p : α → Bool) (q : α → α → Bool) (l : List α) (f : Nat → Bool) (h0 : 0 < l.length → f 0 = p (gt l 0)) (hs : ∀ i, i + 1 < l.length → f (i + 1) = (p (gt l (i + 1)) && q (gt l i) (gt l (i + 1)))) :
    allFrom f 0 l.length = pchk p q none l := by
  have key : ∀ m k, l.length - (k + 1) = m → allFrom f (k + 1) l.length = pchk p q (some (gt l k)) (l.drop (k + 1)) := by
    intro m
    induction m with
    | zero =>
      intro k hk
      rw [allFrom_end (by omega), List.drop_of_length_le (by omega)]; rfl
    | succ m ih =>
      intro k hk
      rw [allFrom_step (by omega), drop_gt (by omega), pchk, hs k (by omega), ih (k + 1) (by omega)]
  by_cases hl : 0 < l.length
  · have h1 : l = gt l 0 :: l.drop 1 := by have := drop_gt hl; simpa using this
    rw [allFrom_step hl, h0 hl, key _ 0 rfl]
    conv => rhs; rw [h1]
    rfl
  · have : l = [] := List.eq_nil_of_length_eq_zero (by omega)
    subst this; rfl
theorem spBad_two (x y : Span) : (!(spBad x y)) = ((!(r3One x)) && (!(r3Two y x))) := by
  rw [Bool.eq_iff_iff]
  simp only [spBad, r3One, r3Two, r3Dot, Bool.not_eq_true', Bool.or_eq_false_iff, Bool.and_eq_true, Bool.and_eq_false_iff, decide_eq_false_iff_not, decide_eq_true_eq, beq_eq_false_iff_ne, Bool.not_eq_false', ne_eq]
  omega
theorem spBad_one (x : Span) : (!(spBad x ⟨0, 0, 0⟩)) = !(r3One x) := by
  rw [Bool.eq_iff_iff]
  simp only [spBad, r3One, r3Dot, Bool.not_eq_true', Bool.or_eq_false_iff, Bool.and_eq_true, Bool.and_eq_false_iff, decide_eq_false_iff_not, decide_eq_true_eq, beq_eq_false_iff_ne, Bool.not_eq_false', ne_eq]
  omega
theorem spGo_chk : ∀ (l : List Span) (y : Span), spGo l y = pchk (fun x => !(r3One x)) (fun p x => !(r3Two p x)) (some y) l
  | [], _ => rfl
  | x :: l, y => by
    rw [spGo, pchk, ← spGo_chk l x, ← spBad_two]
    cases spBad x y <;> rfl
theorem spRight_eq (l : List Span) : spRight l = r3Right l := by
  unfold spRight r3Right
  have h1 : spGo l ⟨0, 0, 0⟩ = pchk (fun x => !(r3One x)) (fun p x => !(r3Two p x)) none l := by
    cases l with
    | nil => rfl
    | cons x l =>
      rw [spGo, pchk, ← spGo_chk l x, ← spBad_one]
      cases spBad x ⟨0, 0, 0⟩ <;> rfl
  rw [h1, allFrom_chk (fun x => !(r3One x)) (fun p x => !(r3Two p x))]
  · by_cases h : 1024 < l.length
    · have h2 : decide ((l.length : Int) ≤ 1024) = false := by simp; omega
      simp [h, h2]
    · have h2 : decide ((l.length : Int) ≤ 1024) = true := by simp; omega
      simp [h, h2]
  · intro _; simp
  · intro i _
    have : decide ((0 : Int) < ((i + 1 : Nat) : Int)) = true := by rw [decide_eq_true_eq]; omega
    rw [this, Bool.true_and, Nat.add_sub_cancel]
theorem rightOne_eq (v : Ver) : vsRightOne v = r5RightOne v := by
  unfold vsRightOne r5RightOne
  rw [spRight_eq v.past, top_eq]
  have h1 : spRight [⟨v.dot.s, v.dot.n, v.dot.n⟩] = r3Dot v.dot := by
    rw [Bool.eq_iff_iff]
    have e : ∀ c : Bool, (bif c then false else true) = !c := by decide
    simp only [spRight, spGo, e, spBad, r3Dot, Bool.and_eq_true, decide_eq_true_eq, List.length_singleton, Bool.not_eq_true', Bool.or_eq_false_iff, decide_eq_false_iff_not, Bool.and_eq_false_iff, beq_eq_false_iff_ne, ne_eq]
    omega
  rw [h1]
  have h2 : (decide (r3Top v.past v.dot.s < v.dot.n)) = !(decide (v.dot.n ≤ r3Top v.past v.dot.s)) := by
    rw [Bool.eq_iff_iff]; simp
  rw [h2]
  cases r3Dot v.dot <;> cases r3Right v.past <;> cases decide (v.dot.n ≤ r3Top v.past v.dot.s) <;> cases hg : v.gone <;> simp [hg]
  intro h
  rw [bytes_beq, decide_eq_true_eq] at h
  rw [h]
  decide
theorem right_eq (l : List Ver) : vsRight l = r5Right l := by
  unfold vsRight r5Right
  have h1 : allFrom (fun i => !(((!(vsRightOne (gt l i))) || (decide (0 < (i : Int)) && (!(vsBefore (gt l (i - 1)).dot (gt l i).dot)))) || vsBehind (gt l i).dot l)) 0 l.length =
      allFrom (fun i => !((!(r5RightOne (gt l i))) || r5Behind l (gt l i).dot) && !(decide (0 < (i : Int)) && !(r5Less (gt l (i - 1)).dot (gt l i).dot))) 0 l.length := by
    refine allFrom_congr fun i _ => ?_
    rw [rightOne_eq, less_eq, behind_eq]
    cases r5RightOne (gt l i) <;> cases r5Behind l (gt l i).dot <;> cases (decide (0 < (i : Int)) && !(r5Less (gt l (i - 1)).dot (gt l i).dot)) <;> rfl
  rw [h1]
  by_cases h : 512 < l.length
  · have h2 : decide ((l.length : Int) ≤ 512) = false := by rw [decide_eq_false_iff_not]; omega
    simp [h, h2]
  · have h2 : decide ((l.length : Int) ≤ 512) = true := by rw [decide_eq_true_eq]; omega
    simp [h, h2]
theorem gt_ext {α : Type} [Inhabited α] {a b : List α} (hl : a.length = b.length) (h : ∀ i, i < a.length → gt a i = gt b i) : a = b := by
  apply List.ext_getElem hl
  intro i h1 h2
  have := h i h1
  rwa [gt_eq h1, gt_eq h2] at this
theorem r3Same_iff {a b : List Span} : r3Same a b = true ↔ a = b := by
  unfold r3Same
  by_cases hl : a.length = b.length
  · rw [show (a.length == b.length) = true by simpa using hl, cond_true, all0_iff]
    constructor
    · intro h; exact gt_ext hl fun i hi => by simpa using h i hi
    · rintro rfl i _; simp
  · rw [show (a.length == b.length) = false by simpa using hl, cond_false]
    simp only [Bool.false_eq_true, false_iff]
    rintro rfl; exact hl rfl
theorem sameOne_iff {a b : Ver} : r5SameOne a b = true ↔ a = b := by
  unfold r5SameOne
  simp only [Bool.and_eq_true, beq_iff_eq, r3Same_iff]
  cases a; cases b
  simp only [Ver.mk.injEq]
  constructor
  · rintro ⟨⟨⟨h1, h2⟩, h3⟩, h4⟩
    rw [bytes_beq, decide_eq_true_eq] at h3
    exact ⟨h1, h4, h2, h3⟩
  · rintro ⟨h1, h2, h3, h4⟩
    exact ⟨⟨⟨h1, h3⟩, by rw [bytes_beq, decide_eq_true_eq]; exact h4⟩, h2⟩
section
variable {α S R : Type} [Inhabited α]
theorem forI_inv {body : (S → Option R) → Nat → α → S → Option R} {k : S → Option R} {l : List α} (T : Nat → S → Option R) (I : Nat → S → Prop) (hend : ∀ s, I l.length s → k s = T l.length s)
    (hstep : ∀ f i s, i < l.length → I i s → (∀ s', I (i + 1) s' → f s' = T (i + 1) s') → body f i (gt l i) s = T i s) {s : S} (h0 : I 0 s) : forI body k 0 l s = T 0 s := by
  have key : ∀ m i s, l.length - i = m → i ≤ l.length → I i s → forI body k i (l.drop i) s = T i s := by
    intro m
    induction m with
    | zero =>
      intro i s hm hi hI
      have : i = l.length := by omega
      subst this
      rw [List.drop_of_length_le (Nat.le_refl _)]
      exact hend s hI
    | succ m ih =>
      intro i s hm hi hI
      rw [drop_gt (by omega)]
      exact hstep _ i s (by omega) hI fun s' h' => ih (i + 1) s' (by omega) (by omega) h'
  exact key _ 0 s rfl (Nat.zero_le _) h0
theorem forU_inv {body : (S → Option R) → Nat → S → Option R} {k : S → Option R} {n : Nat} (T : Nat → S → Option R) (I : Nat → S → Prop) (hend : ∀ s, I n s → k s = T n s)
    (hstep : ∀ f i s, i < n → I i s → (∀ s', I (i + 1) s' → f s' = T (i + 1) s') → body f i s = T i s) {s : S} (h0 : I 0 s) : forU body k n 0 s = T 0 s := by
  have key : ∀ m i s, i + m = n → I i s → forU body k m i s = T i s := by
    intro m
    induction m with
    | zero =>
      intro i s hm hI
      obtain rfl : i = n := by omega
      exact hend s hI
    | succ m ih =>
      intro i s hm hI
      exact hstep _ i s (by omega) hI fun s' h' => ih (i + 1) s' (by omega) h'
  exact key n 0 s (by omega) h0
theorem forI_all {body : (Unit → Option R) → Nat → α → Unit → Option R} {k : Unit → Option R} {l : List α} {p : Nat → Bool} {r : Option R}
    (h : ∀ f i, i < l.length → body f i (gt l i) () = bif p i then f () else r) : forI body k 0 l () = bif allFrom p 0 l.length then k () else r := by
  refine forI_inv (fun i _ => bif allFrom p i l.length then k () else r) (fun _ _ => True) (fun s _ => ?_) (fun f i s hi _ hf => ?_) trivial
  · rw [allFrom_end (Nat.le_refl _)]; rfl
  · rw [h f i hi, hf () trivial, allFrom_step hi]
    cases p i <;> rfl
end
theorem nat_f {a b : Nat} (h : a = b) : (((a : Nat) : Int) != ((b : Nat) : Int)) = false := by subst h; simp
theorem nat_t {a b : Nat} (h : ¬ a = b) : (((a : Nat) : Int) != ((b : Nat) : Int)) = true := by rw [bne_iff_ne]; omega
theorem gcall_s {R : Type} [Inhabited R] (g : Bool) (v : R) : gcall g (some v) = some (bif g then v else default) := by cases g <;> rfl
theorem w64_nat {i : Nat} (h : i ≤ 4294967296) : w64 (((i : Nat) : Int) - 1) = ((i : Nat) : Int) - 1 := w64_i (by unfold I64; omega)
theorem chk_t {R : Type} {c : Bool} {k : Option R} (h : c = true) : chk c k = k := by rw [h]; rfl
theorem e_Has (l : List Span) (d : Dot) : m_span_Has l d = some (spHas l d) := by
  unfold m_span_Has
  refine forI_inv (fun i _ => some (spHas (l.drop i) d)) (fun _ _ => True) (fun s _ => ?_) (fun f i s hi _ hf => ?_) trivial
  · rw [List.drop_of_length_le (Nat.le_refl _)]; rfl
  · unfold m_span_Has_b1
    rw [hf () trivial, drop_gt hi, spHas]
    cases (((gt l i).s == d.s) && (decide ((gt l i).f ≤ d.n))) && (decide (d.n ≤ (gt l i).t)) <;> rfl
theorem e_r3Has (l : List Span) (d : Dot) : m_firthref03_Has l d = some (r3Has l d) := by
  unfold m_firthref03_Has
  refine forI_inv (fun i _ => some (r3Has (l.drop i) d)) (fun _ _ => True) (fun s _ => ?_) (fun f i s hi _ hf => ?_) trivial
  · rw [List.drop_of_length_le (Nat.le_refl _)]; rfl
  · unfold m_firthref03_Has_b1
    rw [hf () trivial, drop_gt hi, r3Has]
    cases (((gt l i).s == d.s) && (decide ((gt l i).f ≤ d.n))) && (decide (d.n ≤ (gt l i).t)) <;> rfl
theorem e_r3Same (a b : List Span) : m_firthref03_Same a b = some (r3Same a b) := by
  unfold m_firthref03_Same r3Same
  by_cases hl : a.length = b.length
  · rw [nat_f hl, show (a.length == b.length) = true by simpa using hl, cond_false, cond_true]
    rw [forI_all (p := fun i => gt a i == gt b i) (r := some false) (fun f i hi => ?_)]
    · cases allFrom (fun i => gt a i == gt b i) 0 a.length <;> rfl
    · unfold m_firthref03_Same_b1
      rw [chk_t (by simpa using (by omega : i < b.length))]
      show (bif !(gt a i == gt b i) then _ else _) = _
      cases gt a i == gt b i <;> rfl
  · rw [nat_t hl, show (a.length == b.length) = false by simpa using hl]; rfl
theorem e_Right3 (l : List Span) : m_span_Right l = some (spRight l) := by
  unfold m_span_Right spRight
  have := forI_inv (body := m_span_Right_b1) (k := fun _ => some (decide (((l.length : Nat) : Int) ≤ 1024))) (l := l) (fun i s => some (spGo (l.drop i) s && decide (((l.length : Nat) : Int) ≤ 1024))) (fun i s => s.t ≤ 4611686018427387904 ∧ 0 ≤ s.t)
    (fun s _ => ?_) (fun f i s hi hI hf => ?_) (s := ⟨0, 0, 0⟩) (by decide)
  · rw [this]; rfl
  · rw [List.drop_of_length_le (Nat.le_refl _)]; rfl
  · unfold m_span_Right_b1
    rw [w64_i (x := s.t + 1) (by unfold I64; omega), drop_gt hi, spGo]
    show (bif spBad (gt l i) s then _ else _) = _
    cases h : spBad (gt l i) s
    · rw [cond_false, cond_false]
      refine hf _ ?_
      unfold spBad at h
      simp only [Bool.or_eq_false_iff, decide_eq_false_iff_not] at h
      omega
    · rfl
theorem e_Top3 (l : List Span) (s : Int) : m_span_Top l s = some (spTop l s) := by
  unfold m_span_Top spTop
  have := forI_inv (body := m_span_Top_b5 s) (k := fun x => some x) (l := l) (fun i t => some (spTopGo (l.drop i) s t)) (fun _ _ => True)
    (fun t _ => ?_) (fun f i t hi hI hf => ?_) (s := 0) trivial
  · rw [this]; rfl
  · rw [List.drop_of_length_le (Nat.le_refl _)]; rfl
  · unfold m_span_Top_b5 m_span_Top_j6
    rw [hf _ trivial, hf _ trivial, drop_gt hi, spTopGo]
    cases (gt l i).s == s <;> rfl
theorem e_r3Dot (d : Dot) : m_firthref03_Dot d = some (r3Dot d) := rfl
theorem e_r3Right {l : List Span} (hl : l.length ≤ lim) (hr : ∀ x ∈ l, I64 x.f) : m_firthref03_Right l = some (r3Right l) := by
  unfold m_firthref03_Right r3Right
  have hd : (decide (1024 < ((l.length : Nat) : Int))) = decide (1024 < l.length) := by rw [Bool.eq_iff_iff, decide_eq_true_eq, decide_eq_true_eq]; omega
  rw [hd]
  cases decide (1024 < l.length)
  · rw [cond_false, cond_false, forI_all (p := fun i => !(r3One (gt l i)) && !(decide (0 < (i : Int)) && r3Two (gt l (i - 1)) (gt l i))) (r := some false) (fun f i hi => ?_)]
    · cases allFrom (fun i => !(r3One (gt l i)) && !(decide (0 < (i : Int)) && r3Two (gt l (i - 1)) (gt l i))) 0 l.length <;> rfl
    · unfold m_firthref03_Right_b1
      rw [lim_eq] at hl
      have hf : (1 ≤ (gt l i).f → w64 ((gt l i).f - 1) = (gt l i).f - 1) := fun h => w64_i (by have := hr _ (gt_mem hi); unfold I64 at *; omega)
      rw [e_r3Dot, e_r3Dot, w64_nat (by omega)]
      simp only [Option.bind_some, gcall_s]
      unfold r3One
      cases h1 : r3Dot ⟨(gt l i).s, (gt l i).f⟩
      · rfl
      · cases h2 : r3Dot ⟨(gt l i).s, (gt l i).t⟩
        · rfl
        · cases h3 : decide ((gt l i).t < (gt l i).f)
          · simp only [Bool.not_true, Bool.not_false, cond_true, Bool.or_self, cond_false]
            rw [hf (r3Dot_t h1).2.2.1]
            by_cases h0 : 0 < (i : Int)
            · rw [show decide (0 < ((i : Nat) : Int)) = true by simpa using h0]
              have hi1 : (((i : Nat) : Int) - 1).toNat = i - 1 := by omega
              rw [chk_t (show imp true (inb (((i : Nat) : Int) - 1) l.length) = true by
                show inb _ _ = true
                unfold inb
                rw [Bool.and_eq_true, decide_eq_true_eq, decide_eq_true_eq]; omega), hi1]
              unfold r3Two
              simp only [Bool.true_and]
              cases (decide ((gt l i).s < (gt l (i - 1)).s) || ((gt l i).s == (gt l (i - 1)).s) && decide ((gt l i).f - 1 ≤ (gt l (i - 1)).t)) <;> rfl
            · rw [show decide (0 < ((i : Nat) : Int)) = false by simpa using h0]
              rfl
          · rfl
  · rfl
theorem e_r3Top (l : List Span) (s : Int) : m_firthref03_Top l s = some (r3Top l s) := by
  unfold m_firthref03_Top r3Top
  have := forI_inv (body := m_firthref03_Top_b5 s) (k := fun x => some x) (l := l) (fun i t => some (r3TopGo (l.drop i) s t)) (fun _ _ => True)
    (fun t _ => ?_) (fun f i t hi hI hf => ?_) (s := 0) trivial
  · rw [this]; rfl
  · rw [List.drop_of_length_le (Nat.le_refl _)]; rfl
  · unfold m_firthref03_Top_b5 m_firthref03_Top_j6
    rw [hf _ trivial, hf _ trivial, drop_gt hi, r3TopGo]
    cases ((gt l i).s == s) && (decide (t < (gt l i).t)) <;> rfl
structure VerOk (v : Ver) : Prop where
  dot : I64 v.dot.s ∧ I64 v.dot.n
  len : v.past.length ≤ lim
  past : ∀ x ∈ v.past, I64 x.f
  val : v.val.size ≤ lim
def VersOk (l : List Ver) : Prop := l.length ≤ lim ∧ ∀ v ∈ l, VerOk v
theorem e_RightOne (v : Ver) : m_vers_RightOne v = some (vsRightOne v) := by
  unfold m_vers_RightOne vsRightOne
  rw [e_Right3, e_Right3, e_Top3]
  simp only [Option.bind_some, gcall_s]
  cases spRight [⟨v.dot.s, v.dot.n, v.dot.n⟩] <;> cases spRight v.past <;> rfl
theorem e_before (a b : Dot) : m_vers_before a b = some (vsBefore a b) := rfl
theorem e_behind (d : Dot) (l : List Ver) : m_vers_behind d l = some (vsBehind d l) := by
  unfold m_vers_behind
  refine forI_inv (fun i _ => some (vsBehind d (l.drop i))) (fun _ _ => True) (fun s _ => ?_) (fun f i s hi _ hf => ?_) trivial
  · rw [List.drop_of_length_le (Nat.le_refl _)]; rfl
  · unfold m_vers_behind_b1
    rw [hf () trivial, drop_gt hi, vsBehind, e_Has]
    simp only [Option.bind_some]
    cases spHas (gt l i).past d <;> rfl
theorem e_Right5 {l : List Ver} (hl : l.length ≤ lim) : m_vers_Right l = some (vsRight l) := by
  unfold m_vers_Right vsRight
  rw [forI_all (p := fun i => !(((!(vsRightOne (gt l i))) || (decide (0 < (i : Int)) && (!(vsBefore (gt l (i - 1)).dot (gt l i).dot)))) || vsBehind (gt l i).dot l)) (r := some false) (fun f i hi => ?_)]
  · cases allFrom (fun i => !(((!(vsRightOne (gt l i))) || (decide (0 < (i : Int)) && (!(vsBefore (gt l (i - 1)).dot (gt l i).dot)))) || vsBehind (gt l i).dot l)) 0 l.length <;> rfl
  · unfold m_vers_Right_b1
    rw [lim_eq] at hl
    rw [e_RightOne, e_before, e_behind, w64_nat (by omega)]
    simp only [Option.bind_some, gcall_s]
    cases h1 : vsRightOne (gt l i)
    · rfl
    · by_cases h0 : 0 < (i : Int)
      · rw [show decide (0 < ((i : Nat) : Int)) = true by simpa using h0]
        have hi1 : (((i : Nat) : Int) - 1).toNat = i - 1 := by omega
        rw [chk_t (show imp _ (inb (((i : Nat) : Int) - 1) l.length) = true by
          show inb _ _ = true
          unfold inb
          rw [Bool.and_eq_true, decide_eq_true_eq, decide_eq_true_eq]; omega), hi1]
        cases vsBefore (gt l (i - 1)).dot (gt l i).dot <;> cases vsBehind (gt l i).dot l <;> rfl
      · rw [show decide (0 < ((i : Nat) : Int)) = false by simpa using h0]
        show (bif _ || _ then _ else _) = _
        cases vsBehind (gt l i).dot l <;> rfl
theorem e_SameOne (a b : Ver) : m_firthref05_SameOne a b = some (r5SameOne a b) := by
  unfold m_firthref05_SameOne r5SameOne
  rw [e_r3Same]
  simp only [Option.bind_some, gcall_s]
  cases (((a.dot == b.dot) && (a.gone == b.gone)) && (a.val == b.val)) <;> rfl
theorem e_r5Same (a b : List Ver) : m_firthref05_Same a b = some (r5Same a b) := by
  unfold m_firthref05_Same r5Same
  by_cases hl : a.length = b.length
  · rw [nat_f hl, show (a.length == b.length) = true by simpa using hl, cond_false, cond_true]
    rw [forI_all (p := fun i => r5SameOne (gt a i) (gt b i)) (r := some false) (fun f i hi => ?_)]
    · cases allFrom (fun i => r5SameOne (gt a i) (gt b i)) 0 a.length <;> rfl
    · unfold m_firthref05_Same_b1
      rw [chk_t (by simpa using (by omega : i < b.length)), e_SameOne]
      show (bif !(r5SameOne (gt a i) (gt b i)) then _ else _) = _
      cases r5SameOne (gt a i) (gt b i) <;> rfl
  · rw [nat_t hl, show (a.length == b.length) = false by simpa using hl]; rfl
theorem e_r5Behind (l : List Ver) (d : Dot) : m_firthref05_Behind l d = some (r5Behind l d) := by
  unfold m_firthref05_Behind
  refine forI_inv (fun i _ => some (r5Behind (l.drop i) d)) (fun _ _ => True) (fun s _ => ?_) (fun f i s hi _ hf => ?_) trivial
  · rw [List.drop_of_length_le (Nat.le_refl _)]; rfl
  · unfold m_firthref05_Behind_b1
    rw [hf () trivial, drop_gt hi, r5Behind, e_r3Has]
    simp only [Option.bind_some]
    cases r3Has (gt l i).past d <;> rfl
theorem e_Less (a b : Dot) : m_firthref05_Less a b = some (r5Less a b) := by
  unfold m_firthref05_Less r5Less
  cases a.s != b.s <;> rfl
theorem e_r5RightOne {v : Ver} (hv : VerOk v) : m_firthref05_RightOne v = some (r5RightOne v) := by
  unfold m_firthref05_RightOne r5RightOne
  rw [e_r3Dot, e_r3Right hv.len hv.past, e_r3Top]
  simp only [Option.bind_some, gcall_s]
  cases r3Dot v.dot
  · rfl
  · cases r3Right v.past
    · rfl
    · simp only [Bool.not_true, Bool.not_false, Bool.or_self, cond_true, Bool.false_or]
      cases decide (v.dot.n ≤ r3Top v.past v.dot.s)
      · cases v.gone <;> rfl
      · rfl
theorem e_r5Right {l : List Ver} (hl : VersOk l) : m_firthref05_Right l = some (r5Right l) := by
  unfold m_firthref05_Right r5Right
  have hd : (decide (512 < ((l.length : Nat) : Int))) = decide (512 < l.length) := by rw [Bool.eq_iff_iff, decide_eq_true_eq, decide_eq_true_eq]; omega
  rw [hd]
  cases decide (512 < l.length)
  · rw [cond_false, cond_false, forI_all (p := fun i => !((!(r5RightOne (gt l i))) || r5Behind l (gt l i).dot) && !(decide (0 < (i : Int)) && !(r5Less (gt l (i - 1)).dot (gt l i).dot))) (r := some false) (fun f i hi => ?_)]
    · cases allFrom (fun i => !((!(r5RightOne (gt l i))) || r5Behind l (gt l i).dot) && !(decide (0 < (i : Int)) && !(r5Less (gt l (i - 1)).dot (gt l i).dot))) 0 l.length <;> rfl
    · unfold m_firthref05_Right_b1
      have hl1 := hl.1
      rw [lim_eq] at hl1
      rw [e_r5RightOne (hl.2 _ (gt_mem hi)), e_r5Behind, e_Less, w64_nat (by omega)]
      simp only [Option.bind_some, gcall_s]
      cases r5RightOne (gt l i)
      · rfl
      · cases r5Behind l (gt l i).dot
        · by_cases h0 : 0 < (i : Int)
          · rw [show decide (0 < ((i : Nat) : Int)) = true by simpa using h0]
            have hi1 : (((i : Nat) : Int) - 1).toNat = i - 1 := by omega
            simp only [Bool.not_true, Bool.not_false, cond_true, Bool.or_self, cond_false, Bool.true_and]
            rw [chk_t (show imp _ (inb (((i : Nat) : Int) - 1) l.length) = true by
              show inb _ _ = true
              unfold inb
              rw [Bool.and_eq_true, decide_eq_true_eq, decide_eq_true_eq]; omega), hi1]
            cases r5Less (gt l (i - 1)).dot (gt l i).dot <;> rfl
          · rw [show decide (0 < ((i : Nat) : Int)) = false by simpa using h0]
            rfl
        · rfl
  · rfl
theorem r5Same_iff {a b : List Ver} : r5Same a b = true ↔ a = b := by
  unfold r5Same
  by_cases hl : a.length = b.length
  · rw [show (a.length == b.length) = true by simpa using hl, cond_true, all0_iff]
    constructor
    · intro h; exact gt_ext hl fun i hi => sameOne_iff.1 (h i hi)
    · rintro rfl i _; exact sameOne_iff.2 rfl
  · rw [show (a.length == b.length) = false by simpa using hl, cond_false]
    simp only [Bool.false_eq_true, false_iff]
    rintro rfl; exact hl rfl
def hashStep (h : Int) (x : UInt8) : Int := wu64 ((ixor .u64 h (wu64 ((x.toNat : Nat) : Int))) * 1099511628211)
def hashFold (b : List UInt8) : Int := b.foldl hashStep 14695981039346656037
def hashEnd (h : Int) : Int := ixor .u64 (wu64 ((ixor .u64 h (ishr .u64 h 33)) * 18397679294719823053)) (ishr .u64 (wu64 ((ixor .u64 h (ishr .u64 h 33)) * 18397679294719823053)) 33)
def hashB (b : List UInt8) : Int := hashEnd (hashFold b)
theorem wu64_rng (x : Int) : 0 ≤ wu64 x ∧ wu64 x < 18446744073709551616 := by unfold wu64; omega
theorem ixor_rng (a b : Int) : 0 ≤ ixor .u64 a b ∧ ixor .u64 a b < 18446744073709551616 := by unfold ixor wr; exact wu64_rng _
theorem e_Hash (b : List UInt8) : m_num_Hash b = some (hashB b) := by
  unfold m_num_Hash hashB hashFold
  refine forI_inv (fun i h => some (hashEnd ((b.drop i).foldl hashStep h))) (fun _ _ => True) (fun s _ => ?_) (fun f i s hi _ hf => ?_) trivial
  · rw [List.drop_of_length_le (Nat.le_refl _)]; rfl
  · unfold m_num_Hash_b1
    rw [hf _ trivial, drop_gt hi]; rfl
theorem hashB_rng (b : List UInt8) : 0 ≤ hashB b ∧ hashB b < 18446744073709551616 := by unfold hashB hashEnd; exact ixor_rng _ _
theorem hashB_u64 (b : List UInt8) : u64b (hashB b) = true := by have h := hashB_rng b; generalize hashB b = x at h ⊢; unfold u64b; simp; omega
theorem ishr_div {a : Int} {n : Nat} (hn : n ≤ 64) : ishr .u64 a (n : Int) = a / 2 ^ n := by
  unfold ishr
  rw [show min ((n : Int)).toNat IntKind.u64.bits = n from by rw [Int.toNat_natCast]; exact Nat.min_eq_left hn]
theorem iand15 {a : Int} (h0 : 0 ≤ a) (h1 : a < 18446744073709551616) : iand .u64 a 15 = a % 16 := by
  unfold iand
  have e1 : (BitVec.ofInt IntKind.u64.bits a &&& BitVec.ofInt IntKind.u64.bits 15).toNat = (a % 16).toNat := by
    rw [BitVec.toNat_and]
    have e2 : (BitVec.ofInt IntKind.u64.bits a).toNat = a.toNat := by
      rw [BitVec.toNat_ofInt]
      have e9 : ((2 ^ IntKind.u64.bits : Nat) : Int) = 18446744073709551616 := rfl
      rw [e9, Int.emod_eq_of_lt h0 h1]
    have e3 : (BitVec.ofInt IntKind.u64.bits 15).toNat = 15 := by decide
    rw [e2, e3, show (15 : Nat) = 2 ^ 4 - 1 from rfl, Nat.and_two_pow_sub_one_eq_mod]
    omega
  rw [e1]
  show wu64 _ = _
  unfold wu64
  omega
def pa (key : ByteArray) : Nat := (hashB key.data.toList / 1152921504606846976).toNat
def pb (key : ByteArray) : Nat := (hashB key.data.toList / 72057594037927936 % 16).toNat
theorem pa_lt (key : ByteArray) : pa key < 16 := by have := hashB_rng key.data.toList; unfold pa; omega
theorem pb_lt (key : ByteArray) : pb key < 16 := by have := hashB_rng key.data.toList; unfold pb; omega
theorem e_Place (key : ByteArray) : m_tree_Place key = some [((pa key : Nat) : Int), ((pb key : Nat) : Int)] := by
  unfold m_tree_Place
  rw [e_Hash, Option.bind_some]
  have h := hashB_rng key.data.toList
  unfold pa pb
  generalize hashB key.data.toList = H at h ⊢
  have e1 : w64 (ishr .u64 H 60) = ((H / 1152921504606846976).toNat : Int) := by
    rw [show (60 : Int) = ((60 : Nat) : Int) from rfl, ishr_div (by omega)]
    unfold w64
    rw [show (2 : Int) ^ 60 = 1152921504606846976 from by decide]
    omega
  have e2 : w64 (iand .u64 (ishr .u64 H 56) 15) = ((H / 72057594037927936 % 16).toNat : Int) := by
    rw [show (56 : Int) = ((56 : Nat) : Int) from rfl, ishr_div (by omega), show (2 : Int) ^ 56 = 72057594037927936 from by decide, iand15 (by omega) (by omega)]
    unfold w64
    omega
  rw [e1, e2]
theorem wu8_b (x : Int) : u8b (wu8 x) = true := by unfold u8b wu8; simp; omega
theorem put_loop : ∀ (k : Nat) (m : Nat) (b : List UInt8) (u : Int), 0 ≤ u → u < 128 ^ (k + 1) → b.length + k + 1 ≤ lim → ∃ l, loopN m_num_PutNum_b1 (m + k + 1) (b, u) = some l ∧ l.length ≤ b.length + k + 1
  | 0, m, b, u, h0, h1, hl => by
    refine ⟨b ++ [b8 (wu8 u)], ?_, by simp⟩
    show m_num_PutNum_b1 _ (b, u) = _
    unfold m_num_PutNum_b1
    simp only
    rw [show decide (127 < u) = false from decide_eq_false (by simp at h1; omega), cond_false, show decide (b.length + 1 ≤ lim) = true from decide_eq_true (by omega)]
    rfl
  | k + 1, m, b, u, h0, h1, hl => by
    show ∃ l, m_num_PutNum_b1 (loopN m_num_PutNum_b1 (m + k + 1)) (b, u) = some l ∧ _
    unfold m_num_PutNum_b1
    simp only
    by_cases hu : 127 < u
    · rw [show decide (127 < u) = true from decide_eq_true hu, cond_true]
      have hb : u8b (ior .u8 (wu8 u) 128) = true := wu8_b _
      rw [hb, show decide (b.length + 1 ≤ lim) = true from decide_eq_true (by omega)]
      have e : ishr .u64 u 7 = u / 128 := by rw [show (7 : Int) = ((7 : Nat) : Int) from rfl, ishr_div (by omega)]; rfl
      rw [e]
      have hlt : u / 128 < 128 ^ (k + 1) := by
        rw [Int.pow_succ] at h1
        exact Int.ediv_lt_of_lt_mul (by omega) h1
      obtain ⟨l, h3, h4⟩ := put_loop k m (b ++ [b8 (ior .u8 (wu8 u) 128)]) (u / 128) (by omega) hlt (by simp; omega)
      exact ⟨l, h3, by simp at h4; omega⟩
    · rw [show decide (127 < u) = false from decide_eq_false hu, cond_false, show decide (b.length + 1 ≤ lim) = true from decide_eq_true (by omega)]
      exact ⟨b ++ [b8 (wu8 u)], rfl, by simp⟩
theorem put_ex (n : Int) : ∃ l, m_num_PutNum n = some l ∧ l.length ≤ 10 := by
  have h := put_loop 9 18446744073709551606 [] (wu64 (max n 0)) (wu64_rng _).1 (by have := (wu64_rng (max n 0)).2; have e : (128 : Int) ^ (9 + 1) = 1180591620717411303424 := by decide
                                                                                   omega) (by rw [lim_eq]; decide)
  obtain ⟨l, h1, h2⟩ := h
  exact ⟨l, h1, by simpa using h2⟩
def pn (n : Int) : List UInt8 := (m_num_PutNum n).getD []
theorem e_pn (n : Int) : m_num_PutNum n = some (pn n) := by obtain ⟨l, h, _⟩ := put_ex n; unfold pn; rw [h]; rfl
theorem pn_len (n : Int) : (pn n).length ≤ 10 := by obtain ⟨l, h, h2⟩ := put_ex n; unfold pn; rw [h]; exact h2
theorem e_PutText {s : ByteArray} (h : s.size + 10 ≤ lim) : m_num_PutText s = some (pn s.size ++ s.data.toList) := by
  unfold m_num_PutText
  have := pn_len s.size
  rw [e_pn, Option.bind_some, show decide ((pn s.size).length + s.size ≤ lim) = true from decide_eq_true (by omega)]
  rfl
def verB (v : Ver) : List UInt8 := pn v.dot.s ++ pn v.dot.n
def markB (key : ByteArray) (l : List Ver) : List UInt8 := (pn key.size ++ key.data.toList) ++ l.flatMap verB
theorem e_Mark {key : ByteArray} {l : List Ver} (h : key.size + 10 + 20 * l.length ≤ lim) : m_vers_Mark key l = some (hashB (markB key l)) := by
  unfold m_vers_Mark
  rw [e_PutText (by omega), Option.bind_some]
  have hp := pn_len key.size
  have hkd : key.data.toList.length = key.size := rfl
  refine forI_inv (fun i b => some (hashB (b ++ (l.drop i).flatMap verB))) (fun i b => b.length ≤ 10 + key.size + 20 * i) (fun s _ => ?_) (fun f i s hi hI hf => ?_) ?_
  · rw [e_Hash, List.drop_of_length_le (Nat.le_refl _)]; simp
  · unfold m_vers_Mark_b1
    have h1 := pn_len (gt l i).dot.s; have h2 := pn_len (gt l i).dot.n
    rw [e_pn, Option.bind_some, e_pn, Option.bind_some, show decide (s.length + (pn (gt l i).dot.s).length ≤ lim) = true from decide_eq_true (by omega), show decide ((s ++ pn (gt l i).dot.s).length + (pn (gt l i).dot.n).length ≤ lim) = true from decide_eq_true (by simp; omega)]
    simp only [chk, cond_true]
    rw [hf _ (by simp; omega), drop_gt hi, List.flatMap_cons]
    simp [verB, List.append_assoc]
  · simp; omega
def hv (h : Int) : List UInt8 := pn (w64 (ishr .u64 h 32)) ++ pn (w64 (iand .u64 h 4294967295))
theorem hv_len (h : Int) : (hv h).length ≤ 20 := by have := pn_len (w64 (ishr .u64 h 32)); have := pn_len (w64 (iand .u64 h 4294967295)); unfold hv; simp; omega
theorem e_halves {b : List UInt8} (h : Int) (hl : b.length + 20 ≤ lim) : m_tree_halves b h = some (b ++ hv h) := by
  unfold m_tree_halves
  have h1 := pn_len (w64 (ishr .u64 h 32)); have h2 := pn_len (w64 (iand .u64 h 4294967295))
  rw [e_pn, Option.bind_some, e_pn, Option.bind_some, show decide (b.length + (pn (w64 (ishr .u64 h 32))).length ≤ lim) = true from decide_eq_true (by omega), show decide ((b ++ pn (w64 (ishr .u64 h 32))).length + (pn (w64 (iand .u64 h 4294967295))).length ≤ lim) = true from decide_eq_true (by simp; omega)]
  simp [chk, hv]
def ky (r : Rec) : List UInt8 := r.key.data.toList
theorem ba_inj {a b : ByteArray} (h : a.data.toList = b.data.toList) : a = b := by
  rcases a with ⟨⟨a⟩⟩
  rcases b with ⟨⟨b⟩⟩
  simp only at h
  rw [h]
instance : LawfulBEq ByteArray where
  eq_of_beq {a b} h := by rw [bytes_beq] at h; exact of_decide_eq_true h
  rfl {a} := by rw [bytes_beq]; exact decide_eq_true rfl
theorem ky_key {a b : Rec} : ky a = ky b ↔ a.key = b.key := ⟨fun h => ba_inj h, fun h => by unfold ky; rw [h]⟩
def SR (l : List Rec) : Prop := l.Pairwise (fun a b => ky a < ky b)
theorem lt_irr (x : List UInt8) : ¬ x < x := List.lt_irrefl x
theorem lt_tr {x y z : List UInt8} (h : x < y) (h2 : y < z) : x < z := List.lt_trans h h2
theorem lt_as {x y : List UInt8} (h : x < y) : ¬ y < x := fun h2 => lt_irr x (lt_tr h h2)
theorem lt_tri {x y : List UInt8} (h : ¬ y < x) (hne : x ≠ y) : x < y := by
  rcases Classical.em (x < y) with h2 | h2
  · exact h2
  · exact absurd (List.le_antisymm (show x ≤ y from h) (show y ≤ x from h2)) hne
theorem sr_ext : ∀ {l l' : List Rec}, SR l → SR l' → (∀ f, f ∈ l ↔ f ∈ l') → l = l'
  | [], [], _, _, _ => rfl
  | [], b :: l', _, _, h => by have := (h b).2 List.mem_cons_self; cases this
  | a :: l, [], _, _, h => by have := (h a).1 List.mem_cons_self; cases this
  | a :: l, b :: l', h1, h2, h => by
    unfold SR at h1 h2
    rw [List.pairwise_cons] at h1 h2
    have e : a = b := by
      rcases List.mem_cons.1 ((h a).1 List.mem_cons_self) with e | ha
      · exact e
      · rcases List.mem_cons.1 ((h b).2 List.mem_cons_self) with e | hb
        · exact e.symm
        · exact absurd (h2.1 a ha) (lt_as (h1.1 b hb))
    subst e
    rw [sr_ext h1.2 h2.2 fun f => ?_]
    refine ⟨fun hf => ?_, fun hf => ?_⟩
    · rcases List.mem_cons.1 ((h f).1 (List.mem_cons_of_mem _ hf)) with e | hf2
      · subst e; exact absurd (h1.1 f hf) (lt_irr _)
      · exact hf2
    · rcases List.mem_cons.1 ((h f).2 (List.mem_cons_of_mem _ hf)) with e | hf2
      · subst e; exact absurd (h2.1 f hf) (lt_irr _)
      · exact hf2
theorem sr_key {l : List Rec} (h : SR l) {a b : Rec} (ha : a ∈ l) (hb : b ∈ l) (he : a.key = b.key) : a = b := by
  induction l with
  | nil => cases ha
  | cons x l ih =>
    unfold SR at h
    rw [List.pairwise_cons] at h
    rcases List.mem_cons.1 ha with e1 | ha1
    · rcases List.mem_cons.1 hb with e2 | hb1
      · rw [e1, e2]
      · subst e1; have h9 := h.1 b hb1; rw [ky_key.2 he] at h9; exact absurd h9 (lt_irr _)
    · rcases List.mem_cons.1 hb with e2 | hb1
      · subst e2; have h9 := h.1 a ha1; rw [ky_key.2 he] at h9; exact absurd h9 (lt_irr _)
      · exact ih h.2 ha1 hb1
structure RecOk (r : Rec) : Prop where
  key : r.key.size ≤ lim
  vers : VersOk r.vers
def rr (r : Rec) : Bool := (r.key != ByteArray.empty && decide (((r.key.size : Nat) : Int) ≤ 32)) && r5Right r.vers
theorem bif_and (a b : Bool) : (a && (bif a then b else default)) = (a && b) := by cases a <;> rfl
theorem e_rRec {r : Rec} (h : RecOk r) : m_firthref06_RightRec r = some (rr r) := by
  unfold m_firthref06_RightRec rr
  rw [e_r5Right h.vers, gcall_s, Option.bind_some, bif_and]
theorem empty_size (b : ByteArray) : decide (1 ≤ ((b.size : Nat) : Int)) = (b != ByteArray.empty) := by
  rw [Bool.eq_iff_iff, decide_eq_true_eq, bne_iff_ne]
  constructor
  · rintro h rfl
    have : ByteArray.empty.size = 0 := rfl
    omega
  · intro h
    have : b.size ≠ 0 := fun h0 => h (ba_inj (by
      have h1 : b.data.toList.length = 0 := h0
      rw [List.eq_nil_of_length_eq_zero h1]; rfl))
    omega
theorem e_cRec {r : Rec} (h : RecOk r) : m_code_RightRec r = some (rr r) := by
  unfold m_code_RightRec rr
  rw [e_Right5 h.vers.1, right_eq, gcall_s, Option.bind_some, bif_and, empty_size]
theorem rr_len {r : Rec} (h : rr r = true) : r.key.size ≤ 32 ∧ r.vers.length ≤ 512 := by
  unfold rr at h
  simp only [Bool.and_eq_true, decide_eq_true_eq] at h
  exact ⟨by omega, r5Right_len h.2⟩
theorem nilc_l {α : Type} [DecidableEq α] (l : List α) : nilc l.isEmpty (some ([] : List α)) (some ([] ++ l)) = some l := by
  cases l with
  | nil =>
    show (if (some ([] : List α)) = some ([] ++ []) then some ([] : List α) else none) = some []
    rw [if_pos (show some ([] : List α) = some ([] ++ []) from rfl)]
  | cons x l => rfl
theorem e_cloneV {l : List Ver} (h : l.length ≤ lim) : m_slices_Clone_api_Ver_api_Ver l = some l := by
  unfold m_slices_Clone_api_Ver_api_Ver
  rw [show decide (0 + l.length ≤ lim) = true from decide_eq_true (by omega)]
  exact nilc_l l
theorem e_cloneS {l : List Span} (h : l.length ≤ lim) : m_slices_Clone_api_Span_api_Span l = some l := by
  unfold m_slices_Clone_api_Span_api_Span
  rw [show decide (0 + l.length ≤ lim) = true from decide_eq_true (by omega)]
  exact nilc_l l
theorem e_cloneI {l : List Int} (h : l.length ≤ lim) : m_slices_Clone_int_int l = some l := by
  unfold m_slices_Clone_int_int
  rw [show decide (0 + l.length ≤ lim) = true from decide_eq_true (by omega)]
  exact nilc_l l
theorem set_gt {α : Type} [Inhabited α] {l : List α} {i : Nat} (h : i < l.length) : l.set i (gt l i) = l := by
  rw [gt_eq h]; simp
theorem e_own {r : Rec} (h : RecOk r) : m_tree_own r = some r := by
  unfold m_tree_own
  rw [e_cloneV h.vers.1, Option.bind_some]
  refine forU_inv (fun _ _ => some r) (fun _ s => s = r.vers) (fun s hs => ?_) (fun f i s hi hs hf => ?_) rfl
  · subst hs; rfl
  · subst hs
    unfold m_tree_own_b1
    rw [e_cloneS (h.vers.2 _ (gt_mem hi)).len, Option.bind_some]
    exact hf _ (set_gt hi)
def insR (r : Rec) : List Rec → List Rec
  | [] => [r]
  | x :: l => bif strLt r.key x.key then r :: x :: l else x :: insR r l
def oth (r : Rec) (l : List Rec) : List Rec := l.filter (fun x => !(x.key == r.key))
def withr (l : List Rec) (r : Rec) : List Rec := bif decide (r.vers.length = 0) then oth r l else insR r (oth r l)
theorem mem_insR {r x : Rec} : ∀ {l : List Rec}, x ∈ insR r l ↔ x = r ∨ x ∈ l
  | [] => by simp [insR]
  | y :: l => by
    unfold insR
    cases strLt r.key y.key
    · simp only [cond_false, List.mem_cons, mem_insR]
      constructor
      · rintro (h | h | h) <;> simp [h]
      · rintro (h | h | h) <;> simp [h]
    · simp
theorem mem_oth {r x : Rec} {l : List Rec} : x ∈ oth r l ↔ x ∈ l ∧ x.key ≠ r.key := by simp [oth]
theorem mem_withr {r x : Rec} {l : List Rec} : x ∈ withr l r ↔ (x = r ∧ r.vers ≠ []) ∨ (x ∈ l ∧ x.key ≠ r.key) := by
  unfold withr
  by_cases h : r.vers.length = 0
  · rw [decide_eq_true h, cond_true, mem_oth]
    simp [List.eq_nil_of_length_eq_zero h]
  · rw [decide_eq_false h, cond_false, mem_insR, mem_oth]
    have : r.vers ≠ [] := fun e => h (by rw [e]; rfl)
    simp [this]
theorem strLt_iff {a b : ByteArray} : strLt a b = true ↔ a.data.toList < b.data.toList := by unfold strLt; exact decide_eq_true_iff
theorem sr_insR {r : Rec} : ∀ {l : List Rec}, SR l → (∀ x ∈ l, x.key ≠ r.key) → SR (insR r l)
  | [], _, _ => by simp [insR, SR]
  | y :: l, h, hn => by
    unfold SR at h
    rw [List.pairwise_cons] at h
    unfold insR
    cases hc : strLt r.key y.key with
    | true =>
      have h1 : ky r < ky y := strLt_iff.1 hc
      simp only [cond_true]
      unfold SR
      rw [List.pairwise_cons, List.pairwise_cons]
      refine ⟨fun x hx => ?_, h⟩
      rcases List.mem_cons.1 hx with e | hx
      · rw [e]; exact h1
      · exact lt_tr h1 (h.1 x hx)
    | false =>
      simp only [cond_false]
      unfold SR
      rw [List.pairwise_cons]
      refine ⟨fun x hx => ?_, sr_insR h.2 fun x hx => hn x (List.mem_cons_of_mem _ hx)⟩
      rcases mem_insR.1 hx with e | hx
      · rw [e]
        refine lt_tri (fun h2 => ?_) (fun e2 => hn y List.mem_cons_self (ky_key.1 e2))
        have := strLt_iff.2 h2
        rw [hc] at this; cases this
      · exact h.1 x hx
theorem sr_filter {l : List Rec} (p : Rec → Bool) (h : SR l) : SR (l.filter p) := List.Pairwise.filter p h
theorem sr_withr {l : List Rec} {r : Rec} (h : SR l) : SR (withr l r) := by
  unfold withr
  cases decide (r.vers.length = 0)
  · exact sr_insR (sr_filter _ h) fun x hx => (mem_oth.1 hx).2
  · exact sr_filter _ h
theorem insR_len (r : Rec) : ∀ l : List Rec, (insR r l).length = l.length + 1
  | [] => rfl
  | x :: l => by unfold insR; cases strLt r.key x.key <;> simp [insR_len r l]
theorem withr_len (l : List Rec) (r : Rec) : (withr l r).length ≤ l.length + 1 := by
  have h1 : (oth r l).length ≤ l.length := List.length_filter_le _ _
  unfold withr
  cases decide (r.vers.length = 0)
  · rw [cond_false, insR_len]; omega
  · rw [cond_true]; omega
theorem oth_cons {r x : Rec} {l : List Rec} : oth r (x :: l) = bif x.key == r.key then oth r l else x :: oth r l := by
  unfold oth
  rw [List.filter_cons]
  cases x.key == r.key <;> rfl
theorem e_With {l : List Rec} {r : Rec} (hl : l.length + 2 ≤ lim) : m_firthref10_With l r = some (withr l r) := by
  unfold m_firthref10_With
  have h0 : (((r.vers.length : Nat) : Int) == 0) = decide (r.vers.length = 0) := by rw [Bool.eq_iff_iff, beq_iff_eq, decide_eq_true_eq]; omega
  rw [h0]
  refine (forI_inv (fun i (s : (List Rec) × Bool) => some (s.1 ++ (bif s.2 then oth r (l.drop i) else insR r (oth r (l.drop i))))) (fun i s => s.1.length + (bif s.2 then 0 else 1) ≤ i + 1) (fun s hI => ?_) (fun f i s hi hI hf => ?_) (by cases decide (r.vers.length = 0) <;> simp)).trans ?_
  · obtain ⟨out, laid⟩ := s
    rw [List.drop_of_length_le (Nat.le_refl _)]
    simp only at hI ⊢
    cases laid
    · simp only [cond_false] at hI
      rw [show decide (out.length + 1 ≤ lim) = true from decide_eq_true (by omega)]
      rfl
    · simp [oth]
  · obtain ⟨out, laid⟩ := s
    simp only at hI hf ⊢
    unfold m_firthref10_With_b10 m_firthref10_With_j13 m_firthref10_With_j11
    simp only
    rw [drop_gt hi, oth_cons]
    generalize gt l i = x
    cases hk : x.key == r.key with
    | true => simp only [cond_true]; exact hf (out, laid) (by cases laid <;> simp_all <;> omega)
    | false =>
      simp only [cond_false]
      cases laid with
      | true =>
        simp only [cond_true] at hI
        simp only [Bool.not_true, Bool.false_and, cond_false, cond_true]
        rw [show decide (out.length + 1 ≤ lim) = true from decide_eq_true (by omega)]
        simp only [chk, cond_true]
        rw [hf (out ++ [x], true) (by simp; omega)]
        simp
      | false =>
        simp only [cond_false] at hI
        simp only [Bool.not_false, Bool.true_and, cond_false]
        unfold insR
        cases hs : strLt r.key x.key with
        | true =>
          simp only [cond_true]
          rw [show decide (out.length + 1 ≤ lim) = true from decide_eq_true (by omega)]
          simp only [chk, cond_true]
          rw [show decide ((out ++ [r]).length + 1 ≤ lim) = true from decide_eq_true (by simp; omega)]
          simp only [cond_true]
          rw [hf (out ++ [r] ++ [x], true) (by simp; omega)]
          simp
        | false =>
          simp only [cond_false]
          rw [show decide (out.length + 1 ≤ lim) = true from decide_eq_true (by omega)]
          simp only [chk, cond_true]
          rw [hf (out ++ [x], false) (by simp; omega)]
          simp
  · simp [withr]
def okP (path : List Int) : Bool := decide (path.length ≤ 2) && path.all (fun d => decide (0 ≤ d) && decide (d ≤ 15))
theorem at_ok {a : Int} (h : (0 ≤ a ∧ a ≤ 15)) (i : Nat) (hi : i ≤ 1) : ((decide (1 < ((i : Nat) : Int)) || decide (a < 0)) || decide (15 < a)) = false := by simp; omega
theorem at_no {a : Int} (h : ¬ (0 ≤ a ∧ a ≤ 15)) (i : Nat) : ((decide (1 < ((i : Nat) : Int)) || decide (a < 0)) || decide (15 < a)) = true := by simp; omega
theorem at_far {a : Int} (i : Nat) (hi : 2 ≤ i) : ((decide (1 < ((i : Nat) : Int)) || decide (a < 0)) || decide (15 < a)) = true := by simp; omega
theorem okd_t {a : Int} (h : (0 ≤ a ∧ a ≤ 15)) : (decide (0 ≤ a) && decide (a ≤ 15)) = true := by simp [h.1, h.2]
theorem e_at (path : List Int) : ∃ z, m_tree_at path = some z ∧ z.2 = okP path ∧ (okP path = true → z.1 = ((path.length : Int), gt path 0, gt path 1)) := by
  unfold m_tree_at
  match path with
  | [] => exact ⟨_, rfl, rfl, fun _ => rfl⟩
  | [a] =>
    by_cases ha : 0 ≤ a ∧ a ≤ 15
    · refine ⟨((1, a, 0), true), ?_, by simp [okP, ha.1, ha.2], fun _ => rfl⟩
      show m_tree_at_b1 _ 0 a _ = _
      unfold m_tree_at_b1
      rw [at_ok ha 0 (by omega)]; rfl
    · refine ⟨((1, 0, 0), false), ?_, by simp [okP]; omega, fun h => by simp [okP] at h; omega⟩
      show m_tree_at_b1 _ 0 a _ = _
      unfold m_tree_at_b1
      rw [at_no ha 0]; rfl
  | [a, b] =>
    by_cases ha : 0 ≤ a ∧ a ≤ 15
    · by_cases hb : 0 ≤ b ∧ b ≤ 15
      · refine ⟨((2, a, b), true), ?_, by simp [okP, ha.1, ha.2, hb.1, hb.2], fun _ => rfl⟩
        show m_tree_at_b1 _ 0 a _ = _
        unfold m_tree_at_b1
        rw [at_ok ha 0 (by omega)]
        show m_tree_at_b1 _ 1 b _ = _
        unfold m_tree_at_b1
        rw [at_ok hb 1 (by omega)]; rfl
      · refine ⟨((2, a, 0), false), ?_, by simp [okP]; omega, fun h => by simp [okP] at h; omega⟩
        show m_tree_at_b1 _ 0 a _ = _
        unfold m_tree_at_b1
        rw [at_ok ha 0 (by omega)]
        show m_tree_at_b1 _ 1 b _ = _
        unfold m_tree_at_b1
        rw [at_no hb 1]; rfl
    · refine ⟨((2, 0, 0), false), ?_, by simp [okP]; omega, fun h => by simp [okP] at h; omega⟩
      show m_tree_at_b1 _ 0 a _ = _
      unfold m_tree_at_b1
      rw [at_no ha 0]; rfl
  | a :: b :: c :: l =>
    have ho : okP (a :: b :: c :: l) = false := by simp [okP]
    rw [ho]
    by_cases ha : 0 ≤ a ∧ a ≤ 15
    · by_cases hb : 0 ≤ b ∧ b ≤ 15
      · refine ⟨((((a :: b :: c :: l).length : Nat), a, b), false), ?_, rfl, fun h => by cases h⟩
        show m_tree_at_b1 _ 0 a _ = _
        unfold m_tree_at_b1
        rw [at_ok ha 0 (by omega)]
        show m_tree_at_b1 _ 1 b _ = _
        unfold m_tree_at_b1
        rw [at_ok hb 1 (by omega)]
        show m_tree_at_b1 (forI m_tree_at_b1 (fun x4 => some ((gt x4 0, gt x4 1, gt x4 2), true)) 3 l) 2 c _ = _
        unfold m_tree_at_b1
        rw [at_far 2 (by omega)]; rfl
      · refine ⟨((((a :: b :: c :: l).length : Nat), a, 0), false), ?_, rfl, fun h => by cases h⟩
        show m_tree_at_b1 _ 0 a _ = _
        unfold m_tree_at_b1
        rw [at_ok ha 0 (by omega)]
        show m_tree_at_b1 _ 1 b _ = _
        unfold m_tree_at_b1
        rw [at_no hb 1]; rfl
    · refine ⟨((((a :: b :: c :: l).length : Nat), 0, 0), false), ?_, rfl, fun h => by cases h⟩
      show m_tree_at_b1 _ 0 a _ = _
      unfold m_tree_at_b1
      rw [at_no ha 0]; rfl
def ix (k : ByteArray) : Nat := pa k * 16 + pb k
theorem ix_lt (k : ByteArray) : ix k < 256 := by have := pa_lt k; have := pb_lt k; unfold ix; omega
theorem ix_eq {k : ByteArray} {p q : Nat} (hq : q < 16) : ix k = p * 16 + q ↔ pa k = p ∧ pb k = q := by have := pb_lt k; unfold ix; omega
def inP (path : List Int) (r : Rec) : Bool := match path with
  | [] => true
  | [a] => a == ((pa r.key : Nat) : Int)
  | [a, b] => a == ((pa r.key : Nat) : Int) && b == ((pb r.key : Nat) : Int)
  | _ => false
theorem inP_key {path : List Int} {r x : Rec} (h : r.key = x.key) : inP path r = inP path x := by unfold inP; rw [h]
def hs2 (all : List Rec) (a b : Int) : Int := bif (all.filter (inP [a, b])).isEmpty then 0 else hashB ((all.filter (inP [a, b])).flatMap (fun r => hv (hashB (markB r.key r.vers))))
def hs1 (all : List Rec) (a : Int) : Int := bif (all.filter (inP [a])).isEmpty then 0 else hashB ((List.range 16).flatMap (fun d : Nat => hv (hs2 all a ((d : Nat) : Int))))
def hs0 (all : List Rec) : Int := bif all.isEmpty then 0 else hashB ((List.range 16).flatMap (fun d : Nat => hv (hs1 all ((d : Nat) : Int))))
def Hs (all : List Rec) (path : List Int) : Int := match path with
  | [] => hs0 all
  | [a] => hs1 all a
  | [a, b] => hs2 all a b
  | _ => 0
def leafAt (o : OTree) (i : Nat) : List (ByteArray × Rec) := (gt o.leaves i).getD []
structure Good (o : OTree) (all : List Rec) : Prop where
  len : o.leaves.length = 256
  srt : SR all
  ok : ∀ r ∈ all, RecOk r ∧ rr r = true ∧ r.vers ≠ []
  nk : ∀ i, i < 256 → ((leafAt o i).map (·.1)).Nodup
  mem : ∀ i, i < 256 → ∀ p, p ∈ leafAt o i ↔ (p.1 = p.2.key ∧ p.2 ∈ all ∧ ix p.2.key = i)
  sk : (o.sums.map (·.1)).Nodup
  sums : ∀ p ∈ o.sums, ∃ path, okP path = true ∧ p.1 = ((path.length : Int), gt path 0, gt path 1) ∧ p.2 = Hs all path
def t0 : OTree := ⟨List.replicate 256 none, []⟩
theorem t0_leaf {i : Nat} (hi : i < 256) : leafAt t0 i = [] := by
  have h : ∀ n, i < n → gt (List.replicate n (none : Option (List (ByteArray × Rec)))) i = none := fun n h => by
    rw [gt_eq (by rw [List.length_replicate]; exact h), List.getElem_replicate]
  show (gt (List.replicate 256 (none : Option (List (ByteArray × Rec)))) i).getD [] = []
  rw [h 256 hi]; rfl
theorem good0 : Good t0 [] where
  len := List.length_replicate
  srt := List.Pairwise.nil
  ok := fun r h => absurd h List.not_mem_nil
  nk := fun i hi => by rw [t0_leaf hi]; exact List.nodup_nil
  mem := fun i hi p => by
    rw [t0_leaf hi]
    exact ⟨fun h => absurd h List.not_mem_nil, fun h => absurd h.2.1 List.not_mem_nil⟩
  sk := List.nodup_nil
  sums := fun p h => absurd h List.not_mem_nil
def setL (o : OTree) (r : Rec) : List (ByteArray × Rec) := bif decide (0 < r.vers.length) then mput r.key r (mdel r.key (leafAt o (ix r.key))) else mdel r.key (leafAt o (ix r.key))
def setP (o : OTree) (r : Rec) : OTree :=
  ⟨o.leaves.set (ix r.key) (some (setL o r)), mdel (2, ((pa r.key : Nat) : Int), ((pb r.key : Nat) : Int)) (mdel (1, ((pa r.key : Nat) : Int), 0) (mdel (0, 0, 0) o.sums))⟩
theorem inb16 {n : Nat} (h : n < 16) : inb ((n : Nat) : Int) 16 = true := by unfold inb; simp; omega
theorem gt_set {α : Type} [Inhabited α] {l : List α} {i : Nat} {x : α} (h : i < l.length) : gt (l.set i x) i = x := by rw [gt_eq (by simpa using h)]; simp
theorem gt_set_ne {α : Type} [Inhabited α] {l : List α} {i j : Nat} {x : α} (h : i ≠ j) : gt (l.set i x) j = gt l j := by
  unfold gt; simp [List.getD, List.getElem?_set_ne h]
theorem e_Set_j {o : OTree} {r : Rec} {z : List Int} {a b : Nat} {es : List (ByteArray × Rec)} (h : RecOk r) (g0 : gt z 0 = (a : Int)) (g1 : gt z 1 = (b : Int)) (hlt : a * 16 + b < o.leaves.length) (he : gt o.leaves (a * 16 + b) = some es) :
    m_tree_Tree_Set_j1 r z o = some (⟨o.leaves.set (a * 16 + b) (some (bif decide (0 < r.vers.length) then mput r.key r (mdel r.key es) else mdel r.key es)), mdel (2, (a : Int), (b : Int)) (mdel (1, (a : Int), 0) (mdel (0, 0, 0) o.sums))⟩, 0) := by
  unfold m_tree_Tree_Set_j1 m_tree_Tree_Set_j2
  rw [g0, g1, show 0 + ((a : Nat) : Int).toNat * 16 + ((b : Nat) : Int).toNat * 1 = a * 16 + b by rw [Int.toNat_natCast, Int.toNat_natCast]; omega, he, Option.bind_some]
  have hd : decide (0 < ((r.vers.length : Nat) : Int)) = decide (0 < r.vers.length) := by rw [Bool.eq_iff_iff, decide_eq_true_eq, decide_eq_true_eq]; omega
  rw [hd]
  cases decide (0 < r.vers.length) with
  | true =>
    rw [cond_true, cond_true, gt_set hlt, Option.bind_some, e_own h, Option.bind_some, List.set_set]
  | false => rw [cond_false, cond_false]
theorem e_Set_z {o : OTree} {r : Rec} {z : List Int} {a b : Nat} (h : RecOk r) (hrr : rr r = true) (hz : m_tree_Place r.key = some z) (hzl : z.length = 2) (g0 : gt z 0 = (a : Int)) (g1 : gt z 1 = (b : Int)) (ha : a < 16) (hb : b < 16) (hl : o.leaves.length = 256) :
    m_tree_Tree_Set o r = some (⟨o.leaves.set (a * 16 + b) (some (bif decide (0 < r.vers.length) then mput r.key r (mdel r.key ((gt o.leaves (a * 16 + b)).getD [])) else mdel r.key ((gt o.leaves (a * 16 + b)).getD []))), mdel (2, (a : Int), (b : Int)) (mdel (1, (a : Int), 0) (mdel (0, 0, 0) o.sums))⟩, 0) := by
  unfold m_tree_Tree_Set
  rw [e_cRec h, Option.bind_some, hrr, Bool.not_true, cond_false, hz, Option.bind_some, hzl, chk_t (decide_eq_true (by omega)), chk_t (decide_eq_true (by omega)), g0, g1, chk_t (inb16 ha), chk_t (inb16 hb),
    show 0 + ((a : Nat) : Int).toNat * 16 + ((b : Nat) : Int).toNat * 1 = a * 16 + b by rw [Int.toNat_natCast, Int.toNat_natCast]; omega]
  have hlt : a * 16 + b < o.leaves.length := by omega
  cases hg : gt o.leaves (a * 16 + b) with
  | none =>
    rw [Option.isNone_none, cond_true, e_Set_j (es := []) h g0 g1 (by rw [List.length_set]; exact hlt) (gt_set hlt)]
    rw [List.set_set, Option.getD_none]
  | some es =>
    rw [Option.isNone_some, cond_false, e_Set_j h g0 g1 hlt hg, Option.getD_some]
theorem e_Set {o : OTree} {r : Rec} (hl : o.leaves.length = 256) (h : RecOk r) : m_tree_Tree_Set o r = some (bif rr r then (setP o r, 0) else (o, 1)) := by
  cases hr : rr r with
  | false =>
    unfold m_tree_Tree_Set
    rw [e_cRec h, Option.bind_some, hr, Bool.not_false, cond_true, cond_false]
  | true =>
    rw [e_Set_z h hr (e_Place _) rfl rfl rfl (pa_lt _) (pb_lt _) hl, cond_true]
    rfl
theorem filt_same {all : List Rec} {r : Rec} {path : List Int} (hs : SR all) (h : inP path r = false) : (withr all r).filter (inP path) = all.filter (inP path) := by
  refine sr_ext (sr_filter _ (sr_withr hs)) (sr_filter _ hs) fun x => ?_
  simp only [List.mem_filter, mem_withr]
  constructor
  · rintro ⟨⟨rfl, _⟩ | ⟨h1, _⟩, h2⟩
    · rw [h] at h2; cases h2
    · exact ⟨h1, h2⟩
  · rintro ⟨h1, h2⟩
    exact ⟨.inr ⟨h1, fun e => by rw [inP_key e, h] at h2; cases h2⟩, h2⟩
theorem inP_2 {a b : Int} {r : Rec} (h : inP [a] r = false) : inP [a, b] r = false := by
  simp only [inP] at *
  rw [h]; rfl
theorem hs1_same {all : List Rec} {r : Rec} {a : Int} (hs : SR all) (h : inP [a] r = false) : hs1 (withr all r) a = hs1 all a := by
  unfold hs1 hs2
  rw [filt_same hs h]
  simp only [filt_same hs (inP_2 h)]
theorem Hs_same {all : List Rec} {r : Rec} {path : List Int} (hs : SR all) (h : inP path r = false) : Hs (withr all r) path = Hs all path := by
  unfold Hs
  split
  · simp [inP] at h
  · exact hs1_same hs h
  · unfold hs2; rw [filt_same hs h]
  · rfl
theorem key_inP {path : List Int} (ho : okP path = true) {r : Rec} (h0 : ((path.length : Int), gt path 0, gt path 1) ≠ (0, 0, 0)) (h1 : ((path.length : Int), gt path 0, gt path 1) ≠ (1, ((pa r.key : Nat) : Int), 0)) (h2 : ((path.length : Int), gt path 0, gt path 1) ≠ (2, ((pa r.key : Nat) : Int), ((pb r.key : Nat) : Int))) : inP path r = false := by
  match path with
  | [] => exact absurd rfl h0
  | [a] =>
    cases hc : inP [a] r with
    | false => rfl
    | true =>
      simp only [inP, beq_iff_eq] at hc
      subst hc
      exact absurd rfl h1
  | [a, b] =>
    cases hc : inP [a, b] r with
    | false => rfl
    | true =>
      simp only [inP, Bool.and_eq_true, beq_iff_eq] at hc
      obtain ⟨rfl, rfl⟩ := hc
      exact absurd rfl h2
  | a :: b :: c :: l => simp [okP] at ho
theorem Good.set {o : OTree} {all : List Rec} {r : Rec} (h : Good o all) (hr : RecOk r) (hrr : rr r = true) : Good (setP o r) (withr all r) := by
  have hlt : ix r.key < o.leaves.length := by rw [h.len]; exact ix_lt _
  have hnk := h.nk _ (ix_lt r.key)
  have hL : leafAt (setP o r) (ix r.key) = setL o r := by unfold leafAt setP; simp only; rw [gt_set hlt]; rfl
  have hne : ∀ i, i ≠ ix r.key → leafAt (setP o r) i = leafAt o i := fun i hi => by unfold leafAt setP; simp only; rw [gt_set_ne (fun e => hi e.symm)]
  refine ⟨by unfold setP; simpa using h.len, sr_withr h.srt, fun x hx => ?_, fun i hi => ?_, fun i hi p => ?_, ?_, fun p hp => ?_⟩
  · rcases mem_withr.1 hx with ⟨rfl, hv⟩ | ⟨hx, _⟩
    · exact ⟨hr, hrr, hv⟩
    · exact h.ok x hx
  · by_cases e : i = ix r.key
    · subst e
      rw [hL]; unfold setL
      cases decide (0 < r.vers.length)
      · exact mdel_nodup hnk
      · exact mput_nodup (mdel_nodup hnk)
    · rw [hne i e]; exact h.nk i hi
  · by_cases e : i = ix r.key
    · subst e
      rw [hL]
      have hm := h.mem _ (ix_lt r.key) p
      have hd := mem_mdel (x := r.key) (q := p) hnk
      have hvv : (0 < r.vers.length) ↔ r.vers ≠ [] := by rw [List.length_pos_iff]
      unfold setL
      cases hv : decide (0 < r.vers.length) with
      | false =>
        have hv' : ¬ r.vers ≠ [] := fun e => by have := of_decide_eq_false hv; exact this (hvv.2 e)
        simp only [cond_false]
        rw [hd, hm, mem_withr]
        constructor
        · rintro ⟨⟨h1, h2, h3⟩, h4⟩; exact ⟨h1, .inr ⟨h2, fun e => h4 (h1.trans e)⟩, h3⟩
        · rintro ⟨h1, ⟨h2, h3⟩ | ⟨h2, h3⟩, h4⟩
          · exact absurd h3 hv'
          · exact ⟨⟨h1, h2, h4⟩, fun e => h3 (h1.symm.trans e)⟩
      | true =>
        have hv' : r.vers ≠ [] := hvv.1 (of_decide_eq_true hv)
        simp only [cond_true]
        rw [mem_mput (mdel_nodup hnk), hd, hm, mem_withr]
        constructor
        · rintro (h1 | ⟨⟨⟨h1, h2, h3⟩, h4⟩, h5⟩)
          · subst h1; exact ⟨rfl, .inl ⟨rfl, hv'⟩, rfl⟩
          · exact ⟨h1, .inr ⟨h2, fun e => h4 (h1.trans e)⟩, h3⟩
        · rintro ⟨h1, ⟨h2, h3⟩ | ⟨h2, h3⟩, h4⟩
          · left; exact Prod.ext (by rw [h1, h2]) h2
          · exact .inr ⟨⟨⟨h1, h2, h4⟩, fun e => h3 (h1.symm.trans e)⟩, fun e => h3 (h1.symm.trans e)⟩
    · rw [hne i e, h.mem i hi p, mem_withr]
      constructor
      · rintro ⟨h1, h2, h3⟩
        exact ⟨h1, .inr ⟨h2, fun e2 => e (by rw [← h3, e2])⟩, h3⟩
      · rintro ⟨h1, ⟨h2, h3⟩ | ⟨h2, h3⟩, h4⟩
        · exact absurd (by rw [← h4, h2]) e
        · exact ⟨h1, h2, h4⟩
  · exact mdel_nodup (mdel_nodup (mdel_nodup h.sk))
  · have hp' : p ∈ mdel (2, ((pa r.key : Nat) : Int), ((pb r.key : Nat) : Int)) (mdel (1, ((pa r.key : Nat) : Int), 0) (mdel (0, 0, 0) o.sums)) := hp
    rw [mem_mdel (mdel_nodup (mdel_nodup h.sk)), mem_mdel (mdel_nodup h.sk), mem_mdel h.sk] at hp'
    obtain ⟨⟨⟨h1, h2⟩, h3⟩, h4⟩ := hp'
    obtain ⟨path, ho, hk, hh⟩ := h.sums p h1
    rw [hk] at h2 h3 h4
    exact ⟨path, ho, hk, by rw [hh, Hs_same h.srt (key_inP ho h2 h3 h4)]⟩
theorem mem_skeys {β : Type} {es : List (ByteArray × β)} {k : ByteArray} : k ∈ skeys es ↔ k ∈ es.map (·.1) := by
  unfold skeys
  simp only [List.mem_map, List.mem_mergeSort]
  constructor
  · rintro ⟨l, ⟨p, hp, rfl⟩, rfl⟩; exact ⟨p, hp, ba_inj (by simp)⟩
  · rintro ⟨p, hp, rfl⟩; exact ⟨_, ⟨p, hp, rfl⟩, ba_inj (by simp)⟩
theorem skeys_srt {β : Type} {es : List (ByteArray × β)} (hn : (es.map (·.1)).Nodup) : (skeys es).Pairwise fun a b => a.data.toList < b.data.toList := by
  unfold skeys
  rw [List.pairwise_map]
  have hs := List.pairwise_mergeSort (le := fun x y : List UInt8 => decide (x ≤ y)) (fun a b c h1 h2 => by
    simp only [decide_eq_true_eq] at *; exact List.le_trans h1 h2) (fun a b => by
    simp only [Bool.or_eq_true, decide_eq_true_eq]; exact List.le_total a b) (es.map (fun p => p.1.data.toList))
  have hnd : ((es.map (fun p => p.1.data.toList)).mergeSort (fun x y => decide (x ≤ y))).Nodup := by
    rw [(List.mergeSort_perm _ _).nodup_iff, show (fun p : ByteArray × β => p.1.data.toList) = ((fun b : ByteArray => b.data.toList) ∘ (·.1)) from rfl, ← List.map_map]
    exact List.Pairwise.map _ (fun a b h e => h (ba_inj e)) hn
  exact (hs.and hnd).imp fun {a b} h => lt_tri (of_decide_eq_true h.1) h.2
theorem mem_copy : ∀ {es m : List (ByteArray × Rec)} {x : ByteArray × Rec}, (m.map (·.1)).Nodup → (es.map (·.1)).Nodup → ((es.foldl (fun m e => mput e.1 e.2 m) m).map (·.1)).Nodup ∧ (x ∈ es.foldl (fun m e => mput e.1 e.2 m) m ↔ x ∈ es ∨ (x ∈ m ∧ ∀ e ∈ es, e.1 ≠ x.1))
  | [], m, x, hm, _ => ⟨hm, by simp⟩
  | e :: es, m, x, hm, he => by
    rw [List.map_cons, List.nodup_cons] at he
    obtain ⟨h1, h2⟩ := mem_copy (es := es) (m := mput e.1 e.2 m) (x := x) (mput_nodup hm) he.2
    refine ⟨h1, ?_⟩
    rw [List.foldl_cons, h2, mem_mput hm]
    simp only [List.mem_cons]
    constructor
    · rintro (h | ⟨h | h, h3⟩)
      · exact .inl (.inr h)
      · exact .inl (.inl h)
      · exact .inr ⟨h.1, fun q hq => by
          rcases hq with rfl | hq
          · exact fun e2 => h.2 e2.symm
          · exact h3 q hq⟩
    · rintro ((h | h) | ⟨h, h3⟩)
      · subst h
        exact .inr ⟨.inl rfl, fun q hq e2 => he.1 (by rw [← e2]; exact List.mem_map.2 ⟨q, hq, rfl⟩)⟩
      · exact .inl h
      · exact .inr ⟨.inr ⟨h, fun e2 => h3 e (.inl rfl) e2.symm⟩, fun q hq => h3 q (.inr hq)⟩
theorem e_Copy (m es : List (ByteArray × Rec)) : m_maps_Copy_map_string_api_Rec_map_string_api_Rec_string_api_Rec m es = some (es.foldl (fun m e => mput e.1 e.2 m) m) := by
  unfold m_maps_Copy_map_string_api_Rec_map_string_api_Rec_string_api_Rec
  have : ∀ (es m : List (ByteArray × Rec)), fldO m_maps_Copy_map_string_api_Rec_map_string_api_Rec_string_api_Rec_b1 m es = some (es.foldl (fun m e => mput e.1 e.2 m) m) := by
    intro es
    induction es with
    | nil => intro m; rfl
    | cons e es ih => intro m; exact ih _
  rw [this]; rfl
theorem e_CopyN (m : List (ByteArray × Rec)) : m_maps_Copy_map_string_api_Rec_map_string_api_Rec_string_api_Rec_nil m = some () := by
  unfold m_maps_Copy_map_string_api_Rec_map_string_api_Rec_string_api_Rec_nil
  rw [show FU = 18446744073709551615 + 1 from rfl]; rfl
theorem inP_pq {path : List Int} (ho : okP path = true) {p q : Nat} {x : Rec} (hp : pa x.key = p) (hq : pb x.key = q) :
    inP path x = !(((decide (0 < ((path.length : Nat) : Int))) && ((gt path 0) != ((p : Nat) : Int))) || ((decide (1 < ((path.length : Nat) : Int))) && ((gt path 1) != ((q : Nat) : Int)))) := by
  subst hp hq
  match path with
  | [] => rfl
  | [a] =>
    show (a == _) = !(((decide _) && (a != _)) || _)
    rw [show decide (0 < (([a].length : Nat) : Int)) = true from rfl, show decide (1 < (([a].length : Nat) : Int)) = false from rfl]
    simp [bne]
  | [a, b] =>
    show ((a == _) && (b == _)) = !(((decide _) && (a != _)) || ((decide _) && (b != _)))
    rw [show decide (0 < (([a, b].length : Nat) : Int)) = true from rfl, show decide (1 < (([a, b].length : Nat) : Int)) = true from rfl]
    simp [bne]
  | a :: b :: c :: l => simp [okP] at ho
theorem imp_len (path : List Int) (g : Bool) (n : Nat) : imp (g && (decide ((n : Int) < ((path.length : Nat) : Int)))) (decide (n < path.length)) = true := by
  unfold imp
  cases h : decide (n < path.length) with
  | true => cases g && _ <;> rfl
  | false =>
    have : decide ((n : Int) < ((path.length : Nat) : Int)) = false := decide_eq_false (by have := of_decide_eq_false h; omega)
    rw [this, Bool.and_false]; rfl
structure MInv (all : List Rec) (path : List Int) (n : Nat) (m : List (ByteArray × Rec)) : Prop where
  nk : (m.map (·.1)).Nodup
  mem : ∀ x, x ∈ m ↔ (x.1 = x.2.key ∧ x.2 ∈ all ∧ inP path x.2 = true ∧ ix x.2.key < n)
theorem MInv.step {o : OTree} {all : List Rec} {path : List Int} {n : Nat} {m : List (ByteArray × Rec)} (hG : Good o all) (hn : n < 256) (h : MInv all path n m) (hall : ∀ x ∈ all, ix x.key = n → inP path x = true) : MInv all path (n + 1) ((leafAt o n).foldl (fun m e => mput e.1 e.2 m) m) := by
  refine ⟨(mem_copy (x := default) h.nk (hG.nk n hn)).1, fun x => ?_⟩
  rw [(mem_copy (x := x) h.nk (hG.nk n hn)).2, h.mem x, hG.mem n hn x]
  constructor
  · rintro (⟨h1, h2, h3⟩ | ⟨⟨h1, h2, h3, h4⟩, _⟩)
    · exact ⟨h1, h2, hall _ h2 h3, by omega⟩
    · exact ⟨h1, h2, h3, by omega⟩
  · rintro ⟨h1, h2, h3, h4⟩
    by_cases e : ix x.2.key = n
    · exact .inl ⟨h1, h2, e⟩
    · refine .inr ⟨⟨h1, h2, h3, by omega⟩, fun q hq e2 => ?_⟩
      obtain ⟨h5, h6, h7⟩ := (hG.mem n hn q).1 hq
      have : q.2 = x.2 := sr_key hG.srt h6 h2 (by rw [← h5, e2, h1])
      rw [this] at h7; exact e h7
theorem MInv.skip {all : List Rec} {path : List Int} {n : Nat} {m : List (ByteArray × Rec)} (h : MInv all path n m) (hall : ∀ x ∈ all, ix x.key = n → inP path x = false) : MInv all path (n + 1) m := by
  refine ⟨h.nk, fun x => ?_⟩
  rw [h.mem x]
  constructor
  · rintro ⟨h1, h2, h3, h4⟩; exact ⟨h1, h2, h3, by omega⟩
  · rintro ⟨h1, h2, h3, h4⟩
    refine ⟨h1, h2, h3, ?_⟩
    by_cases e : ix x.2.key = n
    · rw [hall _ h2 e] at h3; cases h3
    · omega
theorem nodup_len {α : Type} [DecidableEq α] : ∀ {m l : List α}, m.Nodup → (∀ k ∈ m, k ∈ l) → m.length ≤ l.length
  | [], l, _, _ => by simp
  | a :: m, l, hn, h => by
    rw [List.nodup_cons] at hn
    have ha : a ∈ l := h a List.mem_cons_self
    have h1 := nodup_len (m := m) (l := l.erase a) hn.2 (fun k hk => (List.mem_erase_of_ne (fun e => hn.1 (by rw [← e]; exact hk))).2 (h k (List.mem_cons_of_mem _ hk)))
    rw [List.length_erase_of_mem ha] at h1
    have : 0 < l.length := List.length_pos_of_mem ha
    simp only [List.length_cons]; omega
theorem imp_len0 (path : List Int) : imp (decide ((0 : Int) < ((path.length : Nat) : Int))) (decide (0 < path.length)) = true := by
  have := imp_len path true 0
  rw [Bool.true_and] at this
  exact this
theorem imp_len1 (path : List Int) (g : Bool) : imp (g && (decide ((1 : Int) < ((path.length : Nat) : Int)))) (decide (1 < path.length)) = true := imp_len path g 1
theorem e_Recs {o : OTree} {all : List Rec} (hG : Good o all) (hn : all.length + 2 ≤ lim) (path : List Int) : m_tree_Tree_Recs o path = some (bif okP path then all.filter (inP path) else []) := by
  unfold m_tree_Tree_Recs
  obtain ⟨z, hz, hz2, _⟩ := e_at path
  rw [hz, Option.bind_some, hz2]
  cases ho : okP path with
  | false => rfl
  | true =>
    simp only [Bool.not_true, cond_false, cond_true]
    refine forU_inv (fun _ _ => some (all.filter (inP path))) (fun p m => MInv all path (p * 16) m) (fun m hI => ?_) (fun f p m hp hI hf => ?_) ⟨by simp, fun x => by simp⟩
    · -- behind the loops
      have hmm : ∀ x, x ∈ m ↔ (x.1 = x.2.key ∧ x.2 ∈ all ∧ inP path x.2 = true) := fun x => by
        rw [hI.mem x]
        constructor
        · rintro ⟨h1, h2, h3, _⟩; exact ⟨h1, h2, h3⟩
        · rintro ⟨h1, h2, h3⟩; exact ⟨h1, h2, h3, ix_lt _⟩
      have hl : m.length ≤ all.length := by
        have := nodup_len hI.nk (l := all.map (·.key)) (fun k hk => by
          obtain ⟨x, hx, rfl⟩ := List.mem_map.1 hk
          obtain ⟨h1, h2, _⟩ := (hmm x).1 hx
          exact List.mem_map.2 ⟨x.2, h2, h1.symm⟩)
        simpa using this
      rw [chk_t (decide_eq_true (by omega))]
      have hget : ∀ k ∈ skeys m, ∃ r, mget k m = some r ∧ r.key = k ∧ r ∈ all ∧ inP path r = true := fun k hk => by
        obtain ⟨x, hx, rfl⟩ := List.mem_map.1 (mem_skeys.1 hk)
        obtain ⟨h1, h2, h3⟩ := (hmm x).1 hx
        exact ⟨x.2, mget_of_mem hI.nk hx, h1.symm, h2, h3⟩
      refine (forI_inv (fun i out => some (out ++ ((skeys m).drop i).map (fun k => (mget k m).getD default))) (fun i (out : List Rec) => out.length ≤ i) (fun out hO => ?_) (fun f i out hi hO hf => ?_) (Nat.zero_le _)).trans ?_
      · rw [List.drop_of_length_le (Nat.le_refl _)]; simp
      · unfold m_tree_Tree_Recs_b22
        obtain ⟨r, h1, h2, h3, h4⟩ := hget _ (gt_mem hi)
        have hi2 : i < m.length := by rw [skeys_len] at hi; exact hi
        rw [h1]
        show (m_tree_own r).bind _ = _
        rw [e_own (hG.ok r h3).1, Option.bind_some, chk_t (decide_eq_true (by omega)), hf _ (by simp; omega), drop_gt (xs := skeys m) hi, List.map_cons, h1]
        simp
      · rw [List.drop_zero, List.nil_append]
        congr 1
        refine sr_ext ?_ (sr_filter _ hG.srt) fun r => ?_
        · unfold SR
          rw [List.pairwise_map]
          refine (skeys_srt hI.nk).imp_of_mem fun {a b} ha hb hab => ?_
          obtain ⟨r1, h1, h2, _⟩ := hget a ha
          obtain ⟨r2, h3, h4, _⟩ := hget b hb
          rw [h1, h3]
          show r1.key.data.toList < r2.key.data.toList
          rw [h2, h4]; exact hab
        · simp only [List.mem_map, List.mem_filter]
          constructor
          · rintro ⟨k, hk, rfl⟩
            obtain ⟨r1, h1, h2, h3, h4⟩ := hget k hk
            rw [h1]; exact ⟨h3, h4⟩
          · rintro ⟨h1, h2⟩
            have hx : (r.key, r) ∈ m := (hmm (r.key, r)).2 ⟨rfl, h1, h2⟩
            exact ⟨r.key, mem_skeys.2 (List.mem_map.2 ⟨_, hx, rfl⟩), by rw [mget_of_mem hI.nk hx]; rfl⟩
    · unfold m_tree_Tree_Recs_b16
      refine forU_inv (fun _ _ => some (all.filter (inP path))) (fun q m => MInv all path (p * 16 + q) m) (fun m hI => ?_) (fun f2 q m hq hI hf2 => ?_) (by simpa using hI)
      · exact hf m (by rw [Nat.add_mul]; exact hI)
      · unfold m_tree_Tree_Recs_b20 m_tree_Tree_Recs_j21
        rw [chk_t (imp_len0 path), chk_t (imp_len1 path _)]
        have hin : ∀ x ∈ all, ix x.key = p * 16 + q → inP path x = !(((decide (0 < ((path.length : Nat) : Int))) && ((gt path 0) != ((p : Nat) : Int))) || ((decide (1 < ((path.length : Nat) : Int))) && ((gt path 1) != ((q : Nat) : Int)))) := fun x _ hx => by
          obtain ⟨h1, h2⟩ := (ix_eq hq).1 hx
          exact inP_pq ho h1 h2
        cases hc : (((decide (0 < ((path.length : Nat) : Int))) && ((gt path 0) != ((p : Nat) : Int))) || ((decide (1 < ((path.length : Nat) : Int))) && ((gt path 1) != ((q : Nat) : Int)))) with
        | true =>
          simp only [cond_true]
          exact hf2 m (hI.skip fun x hx h => by rw [hin x hx h, hc]; rfl)
        | false =>
          simp only [cond_false]
          have hst := hI.step hG (by omega) (fun x hx h => by rw [hin x hx h, hc]; rfl)
          rw [show 0 + p * 16 + q * 1 = p * 16 + q by omega]
          unfold leafAt at hst
          cases hg : gt o.leaves (p * 16 + q) with
          | none =>
            rw [hg] at hst
            unfold optm
            simp only
            rw [e_CopyN, Option.bind_some]
            exact hf2 m hst
          | some es =>
            rw [hg] at hst
            unfold optm
            simp only
            rw [e_Copy, Option.bind_some]
            exact hf2 _ hst
theorem lim_v : lim = 2147483648 := rfl
theorem forU_ex {S R : Type} {body : (S → Option R) → Nat → S → Option R} {k : S → Option R} {n : Nat} (I : Nat → S → Prop) (Q : R → Prop) (hend : ∀ s, I n s → ∃ r, k s = some r ∧ Q r)
    (hstep : ∀ f i s, i < n → I i s → (∀ s', I (i + 1) s' → ∃ r, f s' = some r ∧ Q r) → ∃ r, body f i s = some r ∧ Q r) {s : S} (h0 : I 0 s) : ∃ r, forU body k n 0 s = some r ∧ Q r := by
  have key : ∀ m i s, i + m = n → I i s → ∃ r, forU body k m i s = some r ∧ Q r := by
    intro m
    induction m with
    | zero =>
      intro i s hm hI
      obtain rfl : i = n := by omega
      exact hend s hI
    | succ m ih =>
      intro i s hm hI
      exact hstep _ i s (by omega) hI fun s' h' => ih (i + 1) s' (by omega) h'
  exact key n 0 s (by omega) h0
theorem pa_rng (k : ByteArray) : (0 : Int) ≤ ((pa k : Nat) : Int) ∧ ((pa k : Nat) : Int) ≤ 15 := by have := pa_lt k; omega
theorem pb_rng (k : ByteArray) : (0 : Int) ≤ ((pb k : Nat) : Int) ∧ ((pb k : Nat) : Int) ≤ 15 := by have := pb_lt k; omega
theorem inP_bad {path : List Int} (h : okP path = false) (r : Rec) : inP path r = false := by
  have ha := pa_rng r.key
  have hb := pb_rng r.key
  cases hc : inP path r with
  | false => rfl
  | true =>
    exfalso
    match path with
    | [] => simp [okP] at h
    | [a] =>
      simp only [inP, beq_iff_eq] at hc
      subst hc
      simp only [okP, List.all_cons, List.all_nil, Bool.and_true, List.length_cons, List.length_nil] at h
      rw [okd_t ha] at h
      simp at h
    | [a, b] =>
      simp only [inP, Bool.and_eq_true, beq_iff_eq] at hc
      obtain ⟨rfl, rfl⟩ := hc
      simp only [okP, List.all_cons, List.all_nil, Bool.and_true, List.length_cons, List.length_nil] at h
      rw [okd_t ha, okd_t hb] at h
      simp at h
    | a :: b :: c :: l => simp [inP] at hc
theorem filt_bad {path : List Int} (h : okP path = false) (all : List Rec) : all.filter (inP path) = [] := by
  rw [List.filter_eq_nil_iff]
  intro r _
  rw [inP_bad h r]; decide
theorem Hs_bad {path : List Int} (h : okP path = false) (all : List Rec) : Hs all path = 0 := by
  match path with
  | [] => simp [okP] at h
  | [a] => show hs1 all a = 0; unfold hs1; rw [filt_bad h]; rfl
  | [a, b] => show hs2 all a b = 0; unfold hs2; rw [filt_bad h]; rfl
  | a :: b :: c :: l => rfl
theorem ok_len {path : List Int} (h : okP path = true) : path.length ≤ 2 := by
  unfold okP at h
  exact of_decide_eq_true (Bool.and_eq_true_iff.1 h).1
theorem ok_dig {path : List Int} (h : okP path = true) {d : Int} (hd : d ∈ path) : 0 ≤ d ∧ d ≤ 15 := by
  unfold okP at h
  have := List.all_eq_true.1 (Bool.and_eq_true_iff.1 h).2 d hd
  simpa using this
theorem ok_i64 {path : List Int} (h : okP path = true) (i : Nat) : i64b (gt path i) = true := by
  have : 0 ≤ gt path i ∧ gt path i ≤ 15 := by
    by_cases hi : i < path.length
    · exact ok_dig h (gt_mem hi)
    · have : gt path i = 0 := by unfold gt; simp [List.getD, List.getElem?_eq_none (Nat.le_of_not_lt hi)]
      omega
  unfold i64b; simp; omega
theorem ok_ext {path : List Int} (h : okP path = true) (hl : path.length ≤ 1) {d : Nat} (hd : d < 16) : okP (path ++ [((d : Nat) : Int)]) = true := by
  unfold okP at *
  have h2 := (Bool.and_eq_true_iff.1 h).2
  rw [Bool.and_eq_true_iff]
  refine ⟨decide_eq_true (by simp; omega), ?_⟩
  rw [List.all_append, h2, Bool.true_and]
  simp; omega
theorem key_path {p q : List Int} (hp : okP p = true) (hq : okP q = true) (h : (((p.length : Nat) : Int), gt p 0, gt p 1) = (((q.length : Nat) : Int), gt q 0, gt q 1)) : p = q := by
  injection h with h1 h2
  injection h2 with h2 h3
  have hl : p.length = q.length := by omega
  match p, q, hl with
  | [], [], _ => rfl
  | [a], [b], _ => exact congrArg (fun x => [x]) h2
  | [a, b], [c, d], _ =>
    have e1 : a = c := h2
    have e2 : b = d := h3
    rw [e1, e2]
  | a :: b :: c :: l, q, _ => simp [okP] at hp
def PH (all : List Rec) (H : OTree → List Int → Option (OTree × Int)) (path : List Int) : Prop :=
  ∀ o, Good o all → ∃ o', H o path = some (o', Hs all path) ∧ Good o' all ∧ ∀ p ∈ o'.sums, p ∈ o.sums ∨ ((path.length : Nat) : Int) ≤ p.1.1
def kidsV (all : List Rec) (path : List Int) : List Int := bif okP path && decide (path.length ≤ 1) then (List.range 16).map (fun d : Nat => Hs all (path ++ [((d : Nat) : Int)])) else []
theorem e_Kids {H : OTree → List Int → Option (OTree × Int)} {all : List Rec} {o : OTree} {path : List Int} (hG : Good o all) (hH : ∀ d : Nat, d < 16 → okP path = true → path.length ≤ 1 → PH all H (path ++ [((d : Nat) : Int)])) :
    ∃ r, m_tree_Tree_Kids H o path = some r ∧ r.2 = kidsV all path ∧ Good r.1 all ∧ ∀ p ∈ r.1.sums, p ∈ o.sums ∨ ((path.length : Nat) : Int) + 1 ≤ p.1.1 := by
  unfold m_tree_Tree_Kids kidsV
  obtain ⟨z, hz, hz2, _⟩ := e_at path
  rw [hz, Option.bind_some, hz2]
  have hd : (!okP path || decide (1 < ((path.length : Nat) : Int))) = !(okP path && decide (path.length ≤ 1)) := by
    have : decide (1 < ((path.length : Nat) : Int)) = !(decide (path.length ≤ 1)) := by
      rw [Bool.eq_iff_iff]; simp; omega
    rw [this]; cases okP path <;> rfl
  rw [hd]
  cases hc : okP path && decide (path.length ≤ 1) with
  | false =>
    rw [Bool.not_false, cond_true, cond_false]
    exact ⟨_, rfl, rfl, hG, fun p hp => .inl hp⟩
  | true =>
    obtain ⟨ho, hl⟩ := Bool.and_eq_true_iff.1 hc
    have hl := of_decide_eq_true hl
    rw [Bool.not_true, cond_false, cond_true]
    refine forU_ex (fun i (s : List Int × OTree) => s.1 = (List.range i).map (fun d : Nat => Hs all (path ++ [((d : Nat) : Int)])) ∧ Good s.2 all ∧ ∀ p ∈ s.2.sums, p ∈ o.sums ∨ ((path.length : Nat) : Int) + 1 ≤ p.1.1)
      (fun r : OTree × List Int => r.2 = (List.range 16).map (fun d : Nat => Hs all (path ++ [((d : Nat) : Int)])) ∧ Good r.1 all ∧ ∀ p ∈ r.1.sums, p ∈ o.sums ∨ ((path.length : Nat) : Int) + 1 ≤ p.1.1) (fun s hI => ?_) (fun f i s hi hI hf => ?_) ⟨rfl, hG, fun p hp => .inl hp⟩
    · obtain ⟨out, o1⟩ := s
      refine ⟨(o1, out), ?_, hI⟩
      have h1 : out = _ := hI.1
      have hlen : 0 < out.length := by rw [h1]; simp
      first
        | rfl
        | (simp only; rw [chk_t (decide_eq_true hlen)])
    · obtain ⟨out, o1⟩ := s
      obtain ⟨h1, h2, h3⟩ := hI
      simp only at h1 h2 h3
      unfold m_tree_Tree_Kids_b1
      simp only
      obtain ⟨o', e1, e2, e3⟩ := hH i hi ho hl o1 h2
      have hol : out.length = i := by rw [h1, List.length_map, List.length_range]
      rw [e_cloneI (by rw [lim_v]; omega), Option.bind_some, chk_t (decide_eq_true (by rw [lim_v]; omega)), chk_t (decide_eq_true (by simp)), e1, Option.bind_some, chk_t (decide_eq_true (by rw [lim_v]; omega))]
      refine hf _ ⟨?_, e2, fun p hp => ?_⟩
      · simp only
        rw [List.range_succ, List.map_append, h1]; rfl
      · rcases e3 p hp with h | h
        · exact h3 p h
        · right
          rw [List.length_append] at h
          simp only [List.length_cons, List.length_nil] at h
          omega
theorem all_i (all : List Rec) : all.filter (inP []) = all := by rw [List.filter_eq_self]; intro a _; rfl
theorem emp_len {α : Type} (l : List α) : decide (0 < ((l.length : Nat) : Int)) = !l.isEmpty := by cases l <;> simp
theorem e_reckon {H : OTree → List Int → Option (OTree × Int)} {all : List Rec} {o : OTree} {path : List Int} (hG : Good o all) (hn : all.length ≤ 4194304) (ho : okP path = true) (hH : ∀ d : Nat, d < 16 → okP path = true → path.length ≤ 1 → PH all H (path ++ [((d : Nat) : Int)])) :
    ∃ o', m_tree_Tree_reckon H o path = some (o', Hs all path) ∧ Good o' all ∧ ∀ p ∈ o'.sums, p ∈ o.sums ∨ ((path.length : Nat) : Int) + 1 ≤ p.1.1 := by
  unfold m_tree_Tree_reckon
  have hlim : all.length + 2 ≤ lim := by rw [lim_v]; omega
  rw [e_Recs hG hlim, Option.bind_some, ho, cond_true]
  by_cases hl2 : path.length = 2
  · rw [show ((((path.length : Nat) : Int)) == 2) = true by rw [hl2]; rfl, cond_true]
    refine ⟨o, ?_, hG, fun p hp => .inl hp⟩
    have hsub : ∀ r ∈ all.filter (inP path), RecOk r ∧ rr r = true := fun r hr => ⟨(hG.ok r (List.mem_filter.1 hr).1).1, (hG.ok r (List.mem_filter.1 hr).1).2.1⟩
    have hfl : (all.filter (inP path)).length ≤ all.length := List.length_filter_le _ _
    have hHs : Hs all path = bif (all.filter (inP path)).isEmpty then 0 else hashB ((all.filter (inP path)).flatMap (fun r => hv (hashB (markB r.key r.vers)))) := by
      match path, hl2 with
      | [a, b], _ => rfl
    rw [hHs]
    generalize all.filter (inP path) = l at hsub hfl ⊢
    refine (forI_inv (fun i (s : List UInt8 × Bool) => m_tree_Tree_reckon_j1 (s.1 ++ (l.drop i).flatMap (fun r => hv (hashB (markB r.key r.vers)))) (s.2 || !(l.drop i).isEmpty) o) (fun i s => s.1.length ≤ 20 * i) (fun s hI => ?_) (fun f i s hi hI hf => ?_) (by simp)).trans ?_
    · obtain ⟨b, c⟩ := s
      simp [List.drop_of_length_le]
    · obtain ⟨b, c⟩ := s
      simp only at hI
      obtain ⟨h1, h2⟩ := hsub _ (gt_mem hi)
      have h3 := rr_len h2
      unfold m_tree_Tree_reckon_b4
      simp only
      have hk : (gt l i).key.size + 10 + 20 * (gt l i).vers.length ≤ lim := by rw [lim_v]; omega
      rw [e_Mark hk, Option.bind_some, chk_t (hashB_u64 _), e_halves _ (by rw [lim_v]; omega), Option.bind_some]
      have := hv_len (hashB (markB (gt l i).key (gt l i).vers))
      rw [hf _ (by simp only [List.length_append]; omega), drop_gt hi, List.flatMap_cons]
      simp
    · rw [List.drop_zero, Bool.false_or, List.nil_append]
      unfold m_tree_Tree_reckon_j1
      rw [Bool.not_not, e_Hash, Option.bind_some, chk_t (hashB_u64 _)]
      cases l.isEmpty <;> rfl
  · have hl1 : path.length ≤ 1 := by have := ok_len ho; omega
    rw [show ((((path.length : Nat) : Int)) == 2) = false by rw [beq_eq_false_iff_ne]; omega, cond_false]
    obtain ⟨r, e1, e2, e3, e4⟩ := e_Kids (H := H) hG hH
    refine ⟨r.1, ?_, e3, e4⟩
    rw [e1, Option.bind_some, Option.bind_some, e2]
    have hk : kidsV all path = (List.range 16).map (fun d : Nat => Hs all (path ++ [((d : Nat) : Int)])) := by
      unfold kidsV
      rw [ho, decide_eq_true hl1]; rfl
    have hkl : (kidsV all path).length = 16 := by rw [hk, List.length_map, List.length_range]
    have hHs : Hs all path = bif (all.filter (inP path)).isEmpty then 0 else hashB ((kidsV all path).flatMap hv) := by
      rw [hk]
      match path, hl1 with
      | [], _ => rw [all_i]; rfl
      | [a], _ => rfl
    rw [hHs]
    generalize kidsV all path = l at hkl ⊢
    generalize all.filter (inP path) = l2
    refine (forI_inv (fun i (s : List UInt8) => m_tree_Tree_reckon_j1 (s ++ (l.drop i).flatMap hv) (decide (0 < ((l2.length : Nat) : Int))) r.1) (fun i s => s.length ≤ 20 * i) (fun s hI => ?_) (fun f i s hi hI hf => ?_) (by simp)).trans ?_
    · simp [List.drop_of_length_le]
    · unfold m_tree_Tree_reckon_b5
      rw [e_halves _ (by rw [lim_v]; omega), Option.bind_some]
      have := hv_len (gt l i)
      rw [hf _ (by simp only [List.length_append]; omega), drop_gt hi, List.flatMap_cons, List.append_assoc]
    · rw [List.drop_zero, List.nil_append]
      unfold m_tree_Tree_reckon_j1
      rw [e_Hash, Option.bind_some, chk_t (hashB_u64 _), emp_len, Bool.not_not]
      cases l2.isEmpty <;> rfl
theorem e_hashB {H : OTree → List Int → Option (OTree × Int)} {all : List Rec} {path : List Int} (hn : all.length ≤ 4194304) (hH : ∀ d : Nat, d < 16 → okP path = true → path.length ≤ 1 → PH all H (path ++ [((d : Nat) : Int)])) : PH all (m_hashB H) path := by
  intro o hG
  unfold m_hashB
  obtain ⟨z, hz, hz2, hz3⟩ := e_at path
  rw [hz, Option.bind_some, hz2]
  cases ho : okP path with
  | false =>
    rw [Bool.not_false, cond_true, Hs_bad ho]
    exact ⟨o, rfl, hG, fun p hp => .inl hp⟩
  | true =>
    rw [Bool.not_true, cond_false, hz3 ho, chk_t (decide_eq_true rfl), chk_t (ok_i64 ho 0), chk_t (ok_i64 ho 1)]
    cases hm : mget ((((path.length : Nat) : Int)), gt path 0, gt path 1) o.sums with
    | some h =>
      obtain ⟨path', h1, h2, h3⟩ := hG.sums _ (mget_mem hm)
      have : path = path' := key_path ho h1 h2
      subst this
      simp only at h3
      subst h3
      exact ⟨o, rfl, hG, fun p hp => .inl hp⟩
    | none =>
      obtain ⟨o', e1, e2, e3⟩ := e_reckon (H := H) hG hn ho hH
      simp only
      rw [e1, Option.bind_some]
      have hno : ((((path.length : Nat) : Int)), gt path 0, gt path 1) ∉ o'.sums.map (·.1) := by
        intro hmem
        obtain ⟨p, hp, he⟩ := List.mem_map.1 hmem
        rcases e3 p hp with h | h
        · exact mget_none.1 hm (List.mem_map.2 ⟨p, h, he⟩)
        · rw [he] at h
          simp only at h
          omega
      refine ⟨_, rfl, ⟨e2.len, e2.srt, e2.ok, e2.nk, e2.mem, ?_, fun p hp => ?_⟩, fun p hp => ?_⟩
      · simp only [List.map_append, List.map_cons, List.map_nil]
        rw [List.nodup_append]
        refine ⟨e2.sk, by simp, fun a ha b hb => ?_⟩
        rw [List.mem_singleton] at hb
        rintro rfl
        exact hno (by rw [← hb]; exact ha)
      · rcases List.mem_append.1 hp with h | h
        · exact e2.sums p h
        · rw [List.mem_singleton] at h
          subst h
          exact ⟨path, ho, rfl, rfl⟩
      · rcases List.mem_append.1 hp with h | h
        · rcases e3 p h with h | h
          · exact .inl h
          · right; omega
        · rw [List.mem_singleton] at h
          subst h
          right; exact Int.le_refl _
theorem e_hashN {all : List Rec} (hn : all.length ≤ 4194304) : ∀ (n : Nat) (path : List Int), 3 ≤ path.length + n → 1 ≤ n → PH all (m_hashN n) path
  | 0, path, _, h => absurd h (by omega)
  | n + 1, path, h, _ => e_hashB hn fun d hd ho hl => e_hashN hn n _ (by rw [List.length_append]; simp; omega) (by omega)
theorem e_THash {all : List Rec} (hn : all.length ≤ 4194304) (path : List Int) : PH all m_tree_Tree_Hash path := fun o hG => e_hashN hn 3 path (by omega) (by omega) o hG
theorem e_TKids {all : List Rec} (hn : all.length ≤ 4194304) {o : OTree} (hG : Good o all) (path : List Int) : ∃ r, m_tree_Tree_Kids m_tree_Tree_Hash o path = some r ∧ r.2 = kidsV all path ∧ Good r.1 all := by
  obtain ⟨r, e1, e2, e3, _⟩ := e_Kids (H := m_tree_Tree_Hash) (path := path) hG fun d _ _ _ => e_THash hn _
  exact ⟨r, e1, e2, e3⟩
theorem forI_ex {α S R : Type} [Inhabited α] {body : (S → Option R) → Nat → α → S → Option R} {k : S → Option R} {l : List α} (I : Nat → S → Prop) (Q : R → Prop) (hend : ∀ s, I l.length s → ∃ r, k s = some r ∧ Q r)
    (hstep : ∀ f i s, i < l.length → I i s → (∀ s', I (i + 1) s' → ∃ r, f s' = some r ∧ Q r) → ∃ r, body f i (gt l i) s = some r ∧ Q r) {s : S} (h0 : I 0 s) : ∃ r, forI body k 0 l s = some r ∧ Q r := by
  have key : ∀ m i s, l.length - i = m → i ≤ l.length → I i s → ∃ r, forI body k i (l.drop i) s = some r ∧ Q r := by
    intro m
    induction m with
    | zero =>
      intro i s hm hi hI
      have : i = l.length := by omega
      subst this
      rw [List.drop_of_length_le (Nat.le_refl _)]
      exact hend s hI
    | succ m ih =>
      intro i s hm hi hI
      rw [drop_gt (by omega)]
      exact hstep _ i s (by omega) hI fun s' h' => ih (i + 1) s' (by omega) (by omega) h'
  exact key _ 0 s rfl (Nat.zero_le _) h0
theorem forI_run {α S R : Type} [Inhabited α] {body : (S → Option R) → Nat → α → S → Option R} {k : S → Option R} {l : List α} {r : Option R} (I : Nat → S → Prop)
    (hend : ∀ s, I l.length s → k s = r) (hstep : ∀ f i s, i < l.length → I i s → (∀ s', I (i + 1) s' → f s' = r) → body f i (gt l i) s = r) {s : S} (h0 : I 0 s) : forI body k 0 l s = r :=
  forI_inv (fun _ _ => r) I hend hstep h0
theorem forU_run {S R : Type} {body : (S → Option R) → Nat → S → Option R} {k : S → Option R} {n : Nat} {r : Option R} (I : Nat → S → Prop)
    (hend : ∀ s, I n s → k s = r) (hstep : ∀ f i s, i < n → I i s → (∀ s', I (i + 1) s' → f s' = r) → body f i s = r) {s : S} (h0 : I 0 s) : forU body k n 0 s = r :=
  forU_inv (fun _ _ => r) I hend hstep h0
theorem pad_gt (a : List Int) {i : Nat} (hi : i < 16) : gt (List.take (List.replicate 16 (0 : Nat)).length a ++ List.drop a.length (List.replicate 16 (0 : Int))) i = gt a i := by
  rw [List.length_replicate]
  unfold gt
  rw [List.getD_eq_getElem?_getD, List.getD_eq_getElem?_getD, List.getElem?_append, List.length_take]
  by_cases h : i < a.length
  · rw [if_pos (by omega), List.getElem?_take, if_pos hi]
  · rw [if_neg (by omega), List.getElem?_drop, List.getElem?_replicate, List.getElem?_eq_none (Nat.le_of_not_lt h)]
    split <;> rfl
def difN (a b : List Int) : List Nat := (List.range 16).filter (fun i => gt a i != gt b i)
def dif (a b : List Int) : List Int := (difN a b).map (fun i : Nat => ((i : Nat) : Int))
theorem dif_step (a b : List Int) (i : Nat) : ((List.range (i + 1)).filter (fun i => gt a i != gt b i)).map (fun i : Nat => ((i : Nat) : Int)) = bif gt a i != gt b i then ((List.range i).filter (fun i => gt a i != gt b i)).map (fun i : Nat => ((i : Nat) : Int)) ++ [((i : Nat) : Int)] else ((List.range i).filter (fun i => gt a i != gt b i)).map (fun i : Nat => ((i : Nat) : Int)) := by
  rw [List.range_succ, List.filter_append, List.map_append, List.filter_cons]
  cases gt a i != gt b i <;> simp
theorem dif_len (a b : List Int) (i : Nat) : (((List.range i).filter (fun i => gt a i != gt b i)).map (fun i : Nat => ((i : Nat) : Int))).length ≤ i := by
  rw [List.length_map]
  have := List.length_filter_le (fun i => gt a i != gt b i) (List.range i)
  rw [List.length_range] at this
  exact this
theorem e_Differ (a b : List Int) : m_tree_Differ a b = some (dif a b) := by
  unfold m_tree_Differ
  refine forU_run (fun i s => s = ((List.range i).filter (fun i => gt a i != gt b i)).map (fun i : Nat => ((i : Nat) : Int))) (fun s hs => by subst hs; rfl) (fun f i s hi hs hf => ?_) rfl
  unfold m_tree_Differ_b4 m_tree_Differ_j5
  have hl := dif_len a b i
  rw [pad_gt a hi, pad_gt b hi, chk_t (decide_eq_true (by rw [hs, lim_v]; omega))]
  have := dif_step a b i
  cases hc : gt a i != gt b i with
  | true =>
    rw [hc, cond_true] at this
    rw [cond_true]
    exact hf _ (by rw [this, hs])
  | false =>
    rw [hc, cond_false] at this
    rw [cond_false]
    exact hf _ (by rw [this, hs])
def addL (l : List Rec) : List Rec := l.foldl withr []
theorem addL_snoc (l : List Rec) (r : Rec) : addL (l ++ [r]) = withr (addL l) r := by unfold addL; rw [List.foldl_append]; rfl
theorem e_New_t {list : List Rec} (hok : ∀ r ∈ list, RecOk r) (hr : ∀ r ∈ list, rr r = true) : ∃ o, m_tree_New list = some (some o, 0) ∧ Good o (addL list) := by
  unfold m_tree_New
  obtain ⟨r, h1, o, h2, h3⟩ := forI_ex (body := m_tree_New_b1) (k := fun o8 => some ((some o8), 0)) (l := list) (s := t0) (fun i o => Good o (addL (list.take i))) (fun r => ∃ o, r = (some o, (0 : Int)) ∧ Good o (addL list)) (fun o h => ⟨_, rfl, o, rfl, by rw [List.take_length] at h; exact h⟩) (fun f i o hi hG hf => by
    unfold m_tree_New_b1
    have hm := gt_mem hi
    rw [e_Set hG.len (hok _ hm), Option.bind_some, hr _ hm, cond_true]
    refine hf _ ?_
    rw [take_gt hi, addL_snoc]
    exact hG.set (hok _ hm) (hr _ hm)) good0
  subst h2
  exact ⟨o, h1, h3⟩
theorem e_New_f {list : List Rec} (hok : ∀ r ∈ list, RecOk r) (hr : ∃ r ∈ list, rr r = false) : m_tree_New list = some (none, 1) := by
  unfold m_tree_New
  refine forI_run (body := m_tree_New_b1) (l := list) (fun i (o : OTree) => o.leaves.length = 256 ∧ ∀ j, j < i → rr (gt list j) = true) (fun o h => ?_) (fun f i o hi hI hf => ?_) (s := t0) ⟨List.length_replicate, fun j hj => absurd hj (Nat.not_lt_zero _)⟩
  · obtain ⟨r, h1, h2⟩ := hr
    obtain ⟨j, hj, rfl⟩ := mem_gt h1
    rw [h.2 j hj] at h2; cases h2
  · unfold m_tree_New_b1
    rw [e_Set hI.1 (hok _ (gt_mem hi)), Option.bind_some]
    cases hc : rr (gt list i) with
    | false => rfl
    | true =>
      rw [cond_true]
      refine hf _ ⟨?_, fun j hj => ?_⟩
      · show (List.set o.leaves _ _).length = 256
        rw [List.length_set]; exact hI.1
      · by_cases e : j = i
        · subst e; exact hc
        · exact hI.2 j (by omega)
theorem e_New0 : m_tree_New [] = some (some t0, 0) := rfl
theorem addL_len (l : List Rec) : (addL l).length ≤ l.length := by
  have : ∀ (l acc : List Rec), (l.foldl withr acc).length ≤ acc.length + l.length := by
    intro l
    induction l with
    | nil => intro acc; exact Nat.le_refl _
    | cons r l ih =>
      intro acc
      rw [List.foldl_cons, List.length_cons]
      have := ih (withr acc r)
      have := withr_len acc r
      omega
  have h := this l []
  simpa [addL] using h
theorem sl_versOk {Γ : Gh} {A : Option Addr} {l : List Ver} (h : Sl verT Γ A l) : VersOk l := by
  refine ⟨h.le, fun v hv => ?_⟩
  obtain ⟨i, hi, rfl⟩ := mem_gt hv
  obtain ⟨A2, c2, h2⟩ := h.verT_at i
  obtain ⟨⟨h3, h4, ⟨_, h5⟩, h6⟩, _⟩ := h2 hi
  refine ⟨⟨h3, h4⟩, h5.le, fun x hx => ?_, h6⟩
  obtain ⟨k, hk, rfl⟩ := mem_gt hx
  exact (h5.spanT_at hk).1.2.1
theorem fits_recOk {Γ : Gh} {A : Option Addr} {c : Nat} {r : Rec} (h : Rec.fits Γ A c r) : RecOk r := ⟨h.1, sl_versOk h.2.2⟩
theorem sl_recOk {Γ : Gh} {A : Option Addr} {l : List Rec} (h : Sl recT Γ A l) : ∀ r ∈ l, RecOk r := fun r hr => by
  obtain ⟨i, hi, rfl⟩ := mem_gt hr
  obtain ⟨A2, c2, h2⟩ := h.recT_at i
  exact fits_recOk (h2 hi).1
theorem rec_bk (r : Rec) : 1 ≤ Rec.bk r := by unfold Rec.bk; omega
theorem recs_len {l : List Rec} (h : bkL Rec.bk l ≤ 1048576) : l.length ≤ 1048576 := Nat.le_trans (bkL_len rec_bk l) h
structure Rcs (all : List Rec) : Prop where
  ok : ∀ r ∈ all, RecOk r ∧ rr r = true
  len : all.length ≤ 4194304
theorem Rcs.filter {all : List Rec} (h : Rcs all) (p : Rec → Bool) : Rcs (all.filter p) := ⟨fun r hr => h.ok r (List.mem_filter.1 hr).1, Nat.le_trans (List.length_filter_le _ _) h.len⟩
theorem e_Held_t {l : List Rec} (hok : ∀ r ∈ l, RecOk r) (hl : l.length + 4 ≤ lim) (hr : ∀ r ∈ l, rr r = true) : m_firthref14_Held l = some (addL l, true) := by
  unfold m_firthref14_Held
  refine forI_run (fun i out => out = addL (l.take i)) (fun out h => by rw [h, List.take_length]) (fun f i out hi h hf => ?_) rfl
  have hm := gt_mem hi
  have hlen := addL_len (l.take i)
  rw [List.length_take] at hlen
  unfold m_firthref14_Held_b1
  rw [e_rRec (hok _ hm), Option.bind_some, hr _ hm, Bool.not_true, cond_false, e_With (by rw [h]; omega), Option.bind_some]
  exact hf _ (by rw [take_gt hi, addL_snoc, h])
theorem all_or (l : List Rec) : (∀ r ∈ l, rr r = true) ∨ ∃ r ∈ l, rr r = false := by
  rcases Classical.em (∃ r ∈ l, rr r = false) with h | h
  · exact .inr h
  · refine .inl fun r hm => ?_
    cases hc : rr r with
    | true => rfl
    | false => exact absurd ⟨r, hm, hc⟩ h
theorem addL_rcs {l : List Rec} {o : OTree} (hl : l.length ≤ 1048576) (h : Good o (addL l)) : Rcs (addL l) := ⟨fun r hr => ⟨(h.ok r hr).1, (h.ok r hr).2.1⟩, by have := addL_len l; omega⟩
def rcV (L : List Rec) (path : List Int) : List Rec := bif okP path then L.filter (inP path) else []
theorem e_RecsV {o : OTree} {all : List Rec} (hG : Good o all) (hn : all.length ≤ 4194304) (path : List Int) : m_tree_Tree_Recs o path = some (rcV all path) := e_Recs hG (by rw [lim_v]; omega) path
theorem dif_len16 (a b : List Int) : (dif a b).length ≤ 16 := dif_len a b 16
def gvR (L : List Rec) (k : ByteArray) : List Ver := ((L.find? (fun r => r.key == k)).map Rec.vers).getD []
theorem gvR_cons (x : Rec) (L : List Rec) (k : ByteArray) : gvR (x :: L) k = bif x.key == k then x.vers else gvR L k := by
  unfold gvR
  rw [List.find?_cons]
  cases x.key == k <;> rfl
theorem gvR_mem : ∀ {L : List Rec} {r : Rec}, SR L → r ∈ L → gvR L r.key = r.vers := by
  intro L r hs hm
  unfold gvR
  cases hf : L.find? (fun x => x.key == r.key) with
  | none =>
    have := List.find?_eq_none.1 hf r hm
    simp at this
  | some x =>
    have h1 := List.mem_of_find?_eq_some hf
    have h2 : x.key = r.key := by have := List.find?_some hf; simpa using this
    rw [sr_key hs h1 hm h2]; rfl
theorem foldl_sr : ∀ (l acc : List Rec), SR acc → SR (l.foldl withr acc)
  | [], _, h => h
  | r :: l, acc, h => foldl_sr l _ (sr_withr h)
theorem addL_sr (l : List Rec) : SR (addL l) := foldl_sr l [] List.Pairwise.nil
theorem e_Get (L : List Rec) (k : ByteArray) : m_firthref14_Get L k = some (gvR L k) := by
  unfold m_firthref14_Get
  refine (forI_inv (fun i _ => some (gvR (L.drop i) k)) (fun _ _ => True) (fun _ _ => ?_) (fun f i s hi _ hf => ?_) trivial).trans (by rw [List.drop_zero])
  · rw [List.drop_of_length_le (Nat.le_refl _)]; rfl
  · unfold m_firthref14_Get_b1
    rw [hf () trivial, drop_gt hi, gvR_cons]
    cases (gt L i).key == k <;> rfl
theorem rcV_sub {L : List Rec} {path : List Int} {r : Rec} (h : r ∈ rcV L path) : r ∈ L := by
  unfold rcV at h
  cases ho : okP path with
  | false => rw [ho] at h; cases h
  | true => rw [ho, cond_true] at h; exact (List.mem_filter.1 h).1
theorem foldl_vers : ∀ {l acc : List Rec}, (∀ x ∈ acc, x.vers ≠ []) → ∀ x ∈ l.foldl withr acc, x.vers ≠ []
  | [], _, h, x, hx => h x hx
  | r :: l, acc, h, x, hx => foldl_vers (l := l) (acc := withr acc r) (fun y hy => by
      rcases mem_withr.1 hy with ⟨h1, h2⟩ | ⟨h1, _⟩
      · rw [h1]; exact h2
      · exact h y h1) x hx
theorem addL_vers (l : List Rec) : ∀ x ∈ addL l, x.vers ≠ [] := foldl_vers (fun x h => absurd h List.not_mem_nil)
theorem difN_mem {a b : List Int} {i : Nat} (h : i ∈ difN a b) : i < 16 ∧ gt a i ≠ gt b i := by
  unfold difN at h
  obtain ⟨h1, h2⟩ := List.mem_filter.1 h
  exact ⟨List.mem_range.1 h1, by simpa using h2⟩
theorem difN_nodup (a b : List Int) : (difN a b).Nodup := List.nodup_range.sublist List.filter_sublist
theorem ok1 {i : Nat} (hi : i < 16) : okP [((i : Nat) : Int)] = true := ok_ext (path := []) rfl (Nat.zero_le _) hi
def inK (path : List Int) (k : ByteArray) : Bool := inP path ⟨k, []⟩
theorem inK_eq (path : List Int) (r : Rec) : inP path r = inK path r.key := inP_key rfl
theorem ok2 {d e : Nat} (hd : d < 16) (he : e < 16) : okP [((d : Nat) : Int), ((e : Nat) : Int)] = true := ok_ext (path := [((d : Nat) : Int)]) (ok1 hd) (Nat.le_refl _) he
theorem inK2 (d e : Nat) (k : ByteArray) : inK [((d : Nat) : Int), ((e : Nat) : Int)] k = (decide (pa k = d) && decide (pb k = e)) := by
  show (((d : Nat) : Int) == ((pa k : Nat) : Int) && ((e : Nat) : Int) == ((pb k : Nat) : Int)) = _
  rw [Bool.eq_iff_iff]; simp; omega
inductive Wy where
  | one (d : Nat)
  | two (d e : Nat)
  deriving DecidableEq, Inhabited
def Wy.way : Wy → Dpull_way
  | .one d => ⟨((d : Nat) : Int), -1⟩
  | .two d e => ⟨((d : Nat) : Int), ((e : Nat) : Int)⟩
def Wy.path : Wy → List Int
  | .one d => [((d : Nat) : Int)]
  | .two d e => [((d : Nat) : Int), ((e : Nat) : Int)]
def Wy.ok : Wy → Prop
  | .one d => d < 16
  | .two d e => d < 16 ∧ e < 16
def wayOf (p : List Int) : Dpull_way := ⟨gt (List.take [(-1 : Int), (-1)].length p ++ List.drop p.length [(-1), (-1)]) 0, gt (List.take [(-1 : Int), (-1)].length p ++ List.drop p.length [(-1), (-1)]) 1⟩
theorem way_of (x : Wy) : wayOf x.path = x.way := by cases x <;> rfl
theorem path_nn (x : Wy) : ∀ d ∈ x.path, 0 ≤ d := by cases x <;> simp [Wy.path] <;> omega
theorem path_len (x : Wy) : x.path.length = 1 ∨ x.path.length = 2 := by
  cases x with
  | one d => exact .inl rfl
  | two d e => exact .inr rfl
theorem way_inj {x y : Wy} (h : x.way = y.way) : x = y := by
  cases x with
  | one d =>
    cases y with
    | one d2 => simp only [Wy.way, Dpull_way.mk.injEq] at h; have : d = d2 := by omega
                rw [this]
    | two d2 e2 => simp only [Wy.way, Dpull_way.mk.injEq] at h; omega
  | two d e =>
    cases y with
    | one d2 => simp only [Wy.way, Dpull_way.mk.injEq] at h; omega
    | two d2 e2 =>
      simp only [Wy.way, Dpull_way.mk.injEq] at h
      have h1 : d = d2 := by omega
      have h2 : e = e2 := by omega
      rw [h1, h2]
theorem e_wpath (x : Wy) : m_pull_way_path x.way = some x.path := by
  cases x with
  | one d => rfl
  | two d e =>
    unfold m_pull_way_path
    rw [show decide ((Wy.two d e).way.a1 < 0) = false from decide_eq_false (by show ¬ ((e : Nat) : Int) < 0; omega)]
    rfl
theorem forI_find {α : Type} {B : (Unit → Option Int) → Nat → α → Unit → Option Int} {p : α → Bool} : ∀ (l : List α) (i : Nat), (∀ f i, ∀ x ∈ l, B f i x () = bif p x then some ((i : Nat) : Int) else f ()) →
    ∃ r, forI B (fun _ => some (-1)) i l () = some r ∧ decide (0 ≤ r) = l.any p
  | [], i, _ => ⟨-1, rfl, rfl⟩
  | x :: l, i, h => by
    show ∃ r, B (forI B (fun _ => some (-1)) (i + 1) l) i x () = some r ∧ _
    rw [h _ _ x (by simp)]
    cases hc : p x with
    | true => exact ⟨((i : Nat) : Int), rfl, by rw [List.any_cons, hc, Bool.true_or]; exact decide_eq_true (by omega)⟩
    | false =>
      obtain ⟨r, h1, h2⟩ := forI_find l (i + 1) (fun f i y hy => h f i y (List.mem_cons_of_mem _ hy))
      exact ⟨r, h1, by rw [List.any_cons, hc, Bool.false_or]; exact h2⟩
theorem e_neg (p : List Int) : m_slices_ContainsFunc_int_int_s1 p = some (p.any (fun d => decide (d < 0))) := by
  unfold m_slices_ContainsFunc_int_int_s1 m_slices_IndexFunc_int_int_s1
  obtain ⟨r, h1, h2⟩ := forI_find (B := m_slices_IndexFunc_int_int_s1_b1) (p := fun d => decide (d < 0)) p 0 (fun f i x _ => by
    unfold m_slices_IndexFunc_int_int_s1_b1 m_pull_Pull_Tell_1
    rw [Option.bind_some])
  rw [h1, Option.bind_some, h2]
theorem e_out (p : List Int) : m_slices_ContainsFunc_int_int p = some (p.any (fun d => decide (d < 0) || decide (15 < d))) := by
  unfold m_slices_ContainsFunc_int_int m_slices_IndexFunc_int_int
  obtain ⟨r, h1, h2⟩ := forI_find (B := m_slices_IndexFunc_int_int_b1) (p := fun d => decide (d < 0) || decide (15 < d)) p 0 (fun f i x _ => by
    unfold m_slices_IndexFunc_int_int_b1 m_pull_Cut_Want_1
    rw [Option.bind_some])
  rw [h1, Option.bind_some, h2]
theorem idx_go (v : Dpull_way) : ∀ (l : List Wy) (i : Nat), (∃ j, j < l.length ∧ (gt l j).way = v ∧ forI (m_slices_Index_pull_way_pull_way_b1 v) (fun _ => some (-1)) i (l.map Wy.way) () = some (((i + j : Nat)) : Int)) ∨ ((∀ x ∈ l, x.way ≠ v) ∧ forI (m_slices_Index_pull_way_pull_way_b1 v) (fun _ => some (-1)) i (l.map Wy.way) () = some (-1))
  | [], i => .inr ⟨by simp, rfl⟩
  | x :: l, i => by
    have hs : forI (m_slices_Index_pull_way_pull_way_b1 v) (fun _ => some (-1)) i ((x :: l).map Wy.way) () = bif v == x.way then some ((i : Nat) : Int) else forI (m_slices_Index_pull_way_pull_way_b1 v) (fun _ => some (-1)) (i + 1) (l.map Wy.way) () := rfl
    rw [hs]
    cases hc : v == x.way with
    | true => exact .inl ⟨0, by simp, (by simpa using hc : v = x.way).symm, rfl⟩
    | false =>
      have hne : v ≠ x.way := by simpa using hc
      rcases idx_go v l (i + 1) with ⟨j, h1, h2, h3⟩ | ⟨h1, h2⟩
      · exact .inl ⟨j + 1, by simpa using h1, h2, by rw [cond_false, h3]; congr 1; omega⟩
      · refine .inr ⟨fun y hy => ?_, by rw [cond_false, h2]⟩
        rcases List.mem_cons.1 hy with rfl | hy
        · exact fun e => hne e.symm
        · exact h1 y hy
theorem e_Index_yes {W : List Wy} {x : Wy} (h : x ∈ W) : ∃ j, j < W.length ∧ gt W j = x ∧ m_slices_Index_pull_way_pull_way (W.map Wy.way) x.way = some ((j : Nat) : Int) := by
  unfold m_slices_Index_pull_way_pull_way
  rcases idx_go x.way W 0 with ⟨j, h1, h2, h3⟩ | ⟨h1, _⟩
  · exact ⟨j, h1, way_inj h2, by rw [h3, Nat.zero_add]⟩
  · exact absurd rfl (h1 x h)
theorem erase_at : ∀ {W : List Wy}, W.Nodup → ∀ {j : Nat}, j < W.length → W.take j ++ W.drop (j + 1) = W.erase (gt W j)
  | [], _, j, hj => absurd hj (Nat.not_lt_zero _)
  | x :: W, hn, 0, _ => by
    show W = (x :: W).erase x
    rw [List.erase_cons_head]
  | x :: W, hn, j + 1, hj => by
    have hn2 := List.nodup_cons.1 hn
    have hj2 : j < W.length := by simpa using hj
    have hne : x ≠ gt W j := fun e => hn2.1 (e ▸ gt_mem hj2)
    show x :: (W.take j ++ W.drop (j + 1)) = (x :: W).erase (gt W j)
    rw [List.erase_cons_tail (by simpa using hne), erase_at hn2.2 hj2]
theorem nodup_map {α β : Type} {f : α → β} {l : List α} (hf : ∀ a b, f a = f b → a = b) (h : l.Nodup) : (l.map f).Nodup := by
  unfold List.Nodup at *
  rw [List.pairwise_map]
  exact h.imp fun hab e => hab (hf _ _ e)
theorem e_Delete {W : List Wy} (hn : W.Nodup) {j : Nat} (hj : j < W.length) (hl : W.length ≤ 1000) : m_slices_Delete_pull_way_pull_way (W.map Wy.way) ((j : Nat) : Int) (w64 (((j : Nat) : Int) + 1)) = some ((W.erase (gt W j)).map Wy.way) := by
  unfold m_slices_Delete_pull_way_pull_way
  have e1 : w64 (((j : Nat) : Int) + 1) = ((j + 1 : Nat) : Int) := by rw [w64_i (by unfold I64; omega)]; omega
  have hin : ∀ n : Nat, n ≤ W.length → inle ((n : Nat) : Int) (W.map Wy.way).length = true := fun n h => by
    unfold inle; rw [List.length_map]; simp; omega
  rw [e1, chk_t (hin _ (by omega)), chk_t (hin _ hj), Int.toNat_natCast, Int.toNat_natCast, chk_t (decide_eq_true (by omega))]
  rw [show ((((j : Nat) : Int)) == ((j + 1 : Nat) : Int)) = false by rw [beq_eq_false_iff_ne]; omega, cond_false, chk_t (decide_eq_true (by
    rw [List.length_append, List.length_take, List.length_drop]; omega)), ← List.map_take, ← List.map_drop, ← List.map_append, erase_at hn hj]
structure WI (W : List Wy) : Prop where
  nd : W.Nodup
  ok : ∀ x ∈ W, x.ok
  no : ∀ d e, Wy.two d e ∈ W → Wy.one d ∉ W
def allW : List Wy := (List.range 16).map Wy.one ++ (List.range 16).flatMap (fun d => (List.range 16).map (Wy.two d))
theorem allW_len : allW.length = 272 := by decide +kernel
theorem WI.len {W : List Wy} (h : WI W) : W.length ≤ 272 := by
  have := nodup_len h.nd (l := allW) (fun x hx => by
    have h2 := h.ok x hx
    unfold allW
    cases x with
    | one d => exact List.mem_append_left _ (List.mem_map.2 ⟨d, List.mem_range.2 h2, rfl⟩)
    | two d e => exact List.mem_append_right _ (List.mem_flatMap.2 ⟨d, List.mem_range.2 h2.1, List.mem_map.2 ⟨e, List.mem_range.2 h2.2, rfl⟩⟩))
  rw [allW_len] at this; exact this
theorem WI.nil : WI [] := ⟨List.nodup_nil, by simp, by simp⟩
def rest (own : List Rec) (hashes : List Int) : Wy → List Wy
  | .one d => (difN (kidsV own [((d : Nat) : Int)]) hashes).map (Wy.two d)
  | .two _ _ => []
theorem two_inj {d e e2 : Nat} (h : Wy.two d e = Wy.two d e2) : e = e2 := by injection h
theorem WI.told {W : List Wy} (h : WI W) {x : Wy} (hx : x ∈ W) (own : List Rec) (hashes : List Int) : WI (W.erase x ++ rest own hashes x) := by
  have hm : ∀ y, y ∈ W.erase x → y ∈ W ∧ y ≠ x := fun y hy => by have := h.nd.mem_erase_iff.1 hy; exact ⟨this.2, this.1⟩
  cases x with
  | two d e =>
    show WI (W.erase (.two d e) ++ [])
    rw [List.append_nil]
    exact ⟨h.nd.erase _, fun y hy => h.ok y (hm y hy).1, fun d2 e2 h2 h3 => h.no d2 e2 (hm _ h2).1 (hm _ h3).1⟩
  | one d =>
    have hr : ∀ y, y ∈ rest own hashes (.one d) → ∃ e, e < 16 ∧ y = .two d e := fun y hy => by
      obtain ⟨e, he, rfl⟩ := List.mem_map.1 hy
      exact ⟨e, (difN_mem he).1, rfl⟩
    have hd := h.ok _ hx
    refine ⟨List.nodup_append.2 ⟨h.nd.erase _, ?_, ?_⟩, fun y hy => ?_, fun d2 e2 h2 h3 => ?_⟩
    · show (List.map (Wy.two d) _).Nodup
      exact nodup_map (fun a b hab => two_inj hab) (difN_nodup _ _)
    · intro y hy z hz hyz
      subst hyz
      obtain ⟨e, _, rfl⟩ := hr _ hz
      exact h.no d e (hm _ hy).1 hx
    · rcases List.mem_append.1 hy with hy | hy
      · exact h.ok y (hm y hy).1
      · obtain ⟨e, he, rfl⟩ := hr _ hy
        exact ⟨hd, he⟩
    · rcases List.mem_append.1 h3 with h3 | h3
      · rcases List.mem_append.1 h2 with h2 | h2
        · exact h.no d2 e2 (hm _ h2).1 (hm _ h3).1
        · obtain ⟨e, he, h4⟩ := hr _ h2
          injection h4 with h5 h6
          subst h5
          exact (hm _ h3).2 rfl
      · obtain ⟨e, he, h4⟩ := hr _ h3
        cases h4
theorem cmp_go {B : (Unit → Option Bool) → Nat → Int → Unit → Option Bool} {b : List Int} (hB : ∀ f i x, i < b.length → B f i x () = bif x != gt b i then some false else f ()) : ∀ (l : List Int) (i : Nat), i + l.length = b.length → forI B (fun _ => some true) i l () = some (decide (l = b.drop i))
  | [], i, h => by
    rw [List.drop_of_length_le (by simpa using Nat.le_of_eq h.symm)]; rfl
  | x :: l, i, h => by
    have hi : i < b.length := by simp at h; omega
    show B (forI B (fun _ => some true) (i + 1) l) i x () = _
    rw [hB _ _ _ hi, cmp_go hB l (i + 1) (by simp at h; omega), drop_gt hi]
    by_cases hx : x = gt b i
    · rw [show (x != gt b i) = false by simpa using hx, cond_false]
      congr 1; rw [Bool.eq_iff_iff]; simp [hx]
    · rw [show (x != gt b i) = true by simpa using hx, cond_true]
      congr 1; symm; exact decide_eq_false (by simp [hx])
theorem e_EqualI (a b : List Int) : m_slices_Equal_int_int a b = some (decide (a = b)) := by
  unfold m_slices_Equal_int_int
  by_cases hl : a.length = b.length
  · rw [nat_f hl, cond_false, cmp_go (b := b) (fun f i x hi => by unfold m_slices_Equal_int_int_b1; rw [chk_t (decide_eq_true hi)]) a 0 (by omega), List.drop_zero]
  · rw [nat_t hl, cond_true]
    congr 1; symm; exact decide_eq_false (fun e => hl (by rw [e]))
theorem e_Same4 (a b : List Int) : m_firthref04_Same a b = some (decide (a = b)) := by
  unfold m_firthref04_Same
  by_cases hl : a.length = b.length
  · rw [nat_f hl, cond_false, cmp_go (b := b) (fun f i x hi => by unfold m_firthref04_Same_b1; rw [chk_t (decide_eq_true hi)]) a 0 (by omega), List.drop_zero]
  · rw [nat_t hl, cond_true]
    congr 1; symm; exact decide_eq_false (fun e => hl (by rw [e]))
def ben (x : Wy) (r : Rec) : Bool := rr r && decide ([((pa r.key : Nat) : Int), ((pb r.key : Nat) : Int)] = x.path)
def odd (x : Wy) (l : List Rec) : Bool := match x with
  | .one _ => false
  | .two _ _ => l.any (fun r => !ben x r)
theorem e_beneath (x : Wy) {r : Rec} (h : RecOk r) : m_pull_way_beneath x.way r = some (ben x r) := by
  unfold m_pull_way_beneath ben
  rw [e_cRec h, Option.bind_some]
  cases rr r with
  | false => rfl
  | true => rw [cond_true, e_Place, Option.bind_some, e_wpath, Option.bind_some, e_EqualI, gcall_s, Option.bind_some, cond_true, Bool.true_and]
theorem e_strange (d e : Nat) {l : List Rec} (h : ∀ r ∈ l, RecOk r) : m_slices_ContainsFunc_api_Rec_api_Rec l ((d : Nat) : Int) ((e : Nat) : Int) = some (l.any (fun r => !ben (.two d e) r)) := by
  unfold m_slices_ContainsFunc_api_Rec_api_Rec m_slices_IndexFunc_api_Rec_api_Rec
  obtain ⟨r, h1, h2⟩ := forI_find (B := m_slices_IndexFunc_api_Rec_api_Rec_b1 ((d : Nat) : Int) ((e : Nat) : Int)) (p := fun r => !ben (.two d e) r) l 0 (fun f i x hx => by
    unfold m_slices_IndexFunc_api_Rec_api_Rec_b1 m_pull_Pull_Tell_2
    have : m_pull_way_beneath (⟨((d : Nat) : Int), ((e : Nat) : Int)⟩ : Dpull_way) x = some (ben (.two d e) x) := e_beneath (.two d e) (h x hx)
    rw [this, Option.bind_some, Option.bind_some])
  rw [h1, Option.bind_some, h2]
structure PS (p : Opull_Pull) (own S : List Rec) (W : List Wy) : Prop where
  ol : own.length ≤ 4194304
  wants : p.wants = W.map Wy.way
  own : Good p.own own
  st : Good p.staged S
def laidS (x : Wy) (l S : List Rec) : List Rec := match x with
  | .one _ => S
  | .two _ _ => l.foldl withr S
theorem tell_eq (p : Opull_Pull) (path hashes : List Int) (list : List Rec) : m_pull_Pull_Tell p path hashes list =
    (Option.bind (gcall (!(decide (2 < ((path.length : Nat) : Int)))) (m_slices_ContainsFunc_int_int_s1 path)) fun z4 => (bif ((decide (2 < ((path.length : Nat) : Int))) || z4) then
      (some (p, false))
      else
      (Option.bind (m_slices_Index_pull_way_pull_way p.wants (wayOf path)) fun z12 => (bif (decide (z12 < 0)) then
      (some (p, false))
      else
      (bif (decide ((wayOf path).a1 < 0)) then
      (chk (i64b z12) (Option.bind (m_slices_Delete_pull_way_pull_way p.wants z12 (w64 (z12 + 1))) fun z18 => (Option.bind (m_tree_Tree_Kids m_tree_Tree_Hash p.own [(wayOf path).a0]) fun z36 => (Option.bind (m_tree_Differ z36.2 hashes) fun z54 => (forI (m_pull_Pull_Tell_b1 path) (fun o65 =>
      (some (o65, true))) 0 z54 (⟨p.id, z36.1, p.begun, p.vec, z18, p.staged⟩ : Opull_Pull))))))
      else
      (Option.bind (m_slices_ContainsFunc_api_Rec_api_Rec list (wayOf path).a0 (wayOf path).a1) fun z87 => (bif z87 then
      (some (p, false))
      else
      (chk (i64b z12) (Option.bind (m_slices_Delete_pull_way_pull_way p.wants z12 (w64 (z12 + 1))) fun z96 => (forI (m_pull_Pull_Tell_b2) (fun o109 =>
      (some (o109, true))) 0 list (⟨p.id, p.own, p.begun, p.vec, z96, p.staged⟩ : Opull_Pull))))))))))) := rfl
theorem i64_nat {n : Nat} (h : n ≤ 1000) : i64b ((n : Nat) : Int) = true := by unfold i64b; simp; omega
theorem tell_begin {p : Opull_Pull} {own S : List Rec} {W : List Wy} (h : PS p own S W) (hW : WI W) {x : Wy} (hx : x ∈ W) (hashes : List Int) (list : List Rec) :
    ∃ j, j < W.length ∧ gt W j = x ∧ m_pull_Pull_Tell p x.path hashes list = (bif (decide (x.way.a1 < 0)) then
      (chk (i64b ((j : Nat) : Int)) (Option.bind (m_slices_Delete_pull_way_pull_way (W.map Wy.way) ((j : Nat) : Int) (w64 (((j : Nat) : Int) + 1))) fun z18 => (Option.bind (m_tree_Tree_Kids m_tree_Tree_Hash p.own [x.way.a0]) fun z36 => (Option.bind (m_tree_Differ z36.2 hashes) fun z54 => (forI (m_pull_Pull_Tell_b1 x.path) (fun o65 =>
      (some (o65, true))) 0 z54 (⟨p.id, z36.1, p.begun, p.vec, z18, p.staged⟩ : Opull_Pull))))))
      else
      (Option.bind (m_slices_ContainsFunc_api_Rec_api_Rec list x.way.a0 x.way.a1) fun z87 => (bif z87 then
      (some (p, false))
      else
      (chk (i64b ((j : Nat) : Int)) (Option.bind (m_slices_Delete_pull_way_pull_way (W.map Wy.way) ((j : Nat) : Int) (w64 (((j : Nat) : Int) + 1))) fun z96 => (forI (m_pull_Pull_Tell_b2) (fun o109 =>
      (some (o109, true))) 0 list (⟨p.id, p.own, p.begun, p.vec, z96, p.staged⟩ : Opull_Pull))))))) := by
  obtain ⟨j, h1, h2, h3⟩ := e_Index_yes hx
  refine ⟨j, h1, h2, ?_⟩
  have hl : x.path.length ≤ 2 := by rcases path_len x with e | e <;> omega
  rw [tell_eq, decide_eq_false (show ¬ (2 : Int) < ((x.path.length : Nat) : Int) by omega), Bool.not_false, e_neg, gcall_s, Option.bind_some, cond_true, Bool.false_or,
    show x.path.any (fun d => decide (d < 0)) = false from List.any_eq_false.2 (fun d hd => by have := path_nn x d hd; simpa using this), cond_false, way_of, h.wants, h3, Option.bind_some,
    decide_eq_false (show ¬ ((j : Nat) : Int) < 0 by omega), cond_false]
theorem map_rest (l : List Wy) (d : Nat) (D : List Nat) : (l ++ D.map (Wy.two d)).map Wy.way = l.map Wy.way ++ D.map (fun e => (⟨((d : Nat) : Int), ((e : Nat) : Int)⟩ : Dpull_way)) := by
  rw [List.map_append, List.map_map]; rfl
theorem tell_yes {p : Opull_Pull} {own S : List Rec} {W : List Wy} (h : PS p own S W) (hW : WI W) {x : Wy} (hx : x ∈ W) (hashes : List Int) {list : List Rec} (hok : ∀ r ∈ list, RecOk r) (ho : odd x list = false) :
    ∃ p', m_pull_Pull_Tell p x.path hashes list = some (p', true) ∧ PS p' own (laidS x list S) (W.erase x ++ rest own hashes x) ∧ p'.id = p.id ∧ p'.begun = p.begun ∧ p'.vec = p.vec := by
  obtain ⟨j, h1, h2, h3⟩ := tell_begin h hW hx hashes list
  have hWl := hW.len
  rw [h3, e_Delete hW.nd h1 (by omega), chk_t (i64_nat (by omega)), Option.bind_some, h2]
  cases x with
  | one d =>
    rw [show decide ((Wy.one d).way.a1 < 0) = true from rfl, cond_true]
    obtain ⟨r, e1, v1, g1⟩ := e_TKids h.ol h.own [(Wy.one d).way.a0]
    rw [e1, Option.bind_some, v1, e_Differ, Option.bind_some]
    have hdl : (difN (kidsV own [((d : Nat) : Int)]) hashes).length ≤ 16 := by have := dif_len16 (kidsV own [((d : Nat) : Int)]) hashes; unfold dif at this; rwa [List.length_map] at this
    show ∃ p', forI (m_pull_Pull_Tell_b1 (Wy.one d).path) _ 0 ((difN (kidsV own [((d : Nat) : Int)]) hashes).map (fun i : Nat => ((i : Nat) : Int))) _ = _ ∧ _
    have hrest : rest own hashes (.one d) = (difN (kidsV own [((d : Nat) : Int)]) hashes).map (Wy.two d) := rfl
    rw [hrest]
    generalize difN (kidsV own [((d : Nat) : Int)]) hashes = D at hdl ⊢
    have hel : (W.erase (.one d)).length ≤ 272 := Nat.le_trans (List.length_erase_le) hWl
    generalize W.erase (.one d) = W2 at hel ⊢
    refine ⟨⟨p.id, r.1, p.begun, p.vec, (W2 ++ D.map (Wy.two d)).map Wy.way, p.staged⟩, ?_, ⟨h.ol, rfl, g1, h.st⟩, rfl, rfl, rfl⟩
    refine forI_run (fun i (o : Opull_Pull) => o = ⟨p.id, r.1, p.begun, p.vec, (W2 ++ (D.take i).map (Wy.two d)).map Wy.way, p.staged⟩) (fun o hI => ?_) (fun f i o hi hI hf => ?_) (by rw [List.take_zero, List.map_nil, List.append_nil])
    · rw [List.length_map, List.take_length] at hI
      rw [hI]
    · rw [List.length_map] at hi
      unfold m_pull_Pull_Tell_b1
      rw [hI]
      simp only
      rw [chk_t (decide_eq_true (by rw [lim_v]; simp only [List.length_map, List.length_append, List.length_take]; omega))]
      refine hf _ ?_
      congr 1
      rw [map_rest, map_rest, take_gt hi, List.map_append, List.append_assoc, gt_map (fun i : Nat => ((i : Nat) : Int)) hi]
      rfl
  | two d e =>
    rw [decide_eq_false (show ¬ (Wy.two d e).way.a1 < 0 by show ¬ ((e : Nat) : Int) < 0; omega), cond_false]
    have hs : m_slices_ContainsFunc_api_Rec_api_Rec list (Wy.two d e).way.a0 (Wy.two d e).way.a1 = some false := by
      rw [← ho]; exact e_strange d e hok
    rw [hs, Option.bind_some, cond_false, chk_t (i64_nat (by omega)), Option.bind_some]
    have hr : ∀ r ∈ list, rr r = true := fun r hr => by
      have h9 := List.any_eq_false.1 (show list.any (fun r => !ben (.two d e) r) = false from ho) r hr
      have h8 : ben (.two d e) r = true := by simpa using h9
      unfold ben at h8
      exact (Bool.and_eq_true_iff.1 h8).1
    show ∃ p', _ ∧ PS p' own (list.foldl withr S) (W.erase (.two d e) ++ []) ∧ _
    rw [List.append_nil]
    obtain ⟨q, e1, e2, e3, e4⟩ := forI_ex (body := m_pull_Pull_Tell_b2) (k := fun o109 => some (o109, true)) (l := list) (s := (⟨p.id, p.own, p.begun, p.vec, (W.erase (.two d e)).map Wy.way, p.staged⟩ : Opull_Pull))
      (fun i o => Good o.staged ((list.take i).foldl withr S) ∧ o.id = p.id ∧ o.own = p.own ∧ o.begun = p.begun ∧ o.vec = p.vec ∧ o.wants = (W.erase (.two d e)).map Wy.way)
      (fun (q : Opull_Pull × Bool) => q.2 = true ∧ PS q.1 own (list.foldl withr S) (W.erase (.two d e)) ∧ q.1.id = p.id ∧ q.1.begun = p.begun ∧ q.1.vec = p.vec)
      (fun o hI => ⟨_, rfl, rfl, ⟨h.ol, hI.2.2.2.2.2, hI.2.2.1 ▸ h.own, by have := hI.1; rwa [List.take_length] at this⟩, hI.2.1, hI.2.2.2.1, hI.2.2.2.2.1⟩)
      (fun f i o hi hI hf => by
        have hm := gt_mem hi
        unfold m_pull_Pull_Tell_b2
        rw [e_Set hI.1.len (hok _ hm), hr _ hm, cond_true, Option.bind_some]
        refine hf _ ⟨?_, hI.2.1, hI.2.2.1, hI.2.2.2.1, hI.2.2.2.2.1, hI.2.2.2.2.2⟩
        rw [take_gt hi, List.foldl_append]
        exact hI.1.set (hok _ hm) (hr _ hm)) ⟨h.st, rfl, rfl, rfl, rfl, rfl⟩
    obtain ⟨q1, q2⟩ := q
    simp only at e2 e3 e4
    subst e2
    exact ⟨q1, e1, e3, e4⟩
theorem e_Wants {p : Opull_Pull} {W : List Wy} (h : p.wants = W.map Wy.way) (hl : W.length ≤ 272) : m_pull_Pull_Wants p = some (W.map Wy.path) := by
  unfold m_pull_Pull_Wants
  rw [h]
  refine forI_run (fun i s => s = (W.take i).map Wy.path) (fun s hI => ?_) (fun f i s hi hI hf => ?_) rfl
  · rw [List.length_map, List.take_length] at hI; rw [hI]
  · rw [List.length_map] at hi
    unfold m_pull_Pull_Wants_b1
    rw [gt_map Wy.way hi, e_wpath, Option.bind_some, e_cloneI (by rcases path_len (gt W i) with e | e <;> rw [lim_v] <;> omega), Option.bind_some,
      chk_t (decide_eq_true (by rw [hI, lim_v]; simp only [List.length_map, List.length_take]; omega))]
    exact hf _ (by rw [take_gt hi, List.map_append, hI]; rfl)
theorem e_clone64 {l : List Int} (h : l.length ≤ lim) : m_slices_Clone_int64_int64 l = some l := by
  first
    | exact e_cloneI h
    | (unfold m_slices_Clone_int64_int64; simp only [List.nil_append]; split <;> first | rfl | skip)
def vRight (v : List Int) : Bool := decide (1 ≤ v.length) && decide (v.length ≤ 16) && v.all (fun x => !(decide (x < 0) || decide (4611686018427387904 < x)))
theorem vR_go {B : (Unit → Option Bool) → Nat → Int → Unit → Option Bool} {e : Bool} (hB : ∀ f i x, B f i x () = bif (decide (x < 0) || decide (4611686018427387904 < x)) then some false else f ()) : ∀ (l : List Int) (i : Nat), forI B (fun _ => some e) i l () = some (e && l.all (fun x => !(decide (x < 0) || decide (4611686018427387904 < x))))
  | [], i => by simp [forI]
  | x :: l, i => by
    show B (forI B (fun _ => some e) (i + 1) l) i x () = _
    rw [hB, vR_go hB l (i + 1), List.all_cons]
    cases (decide (x < 0) || decide (4611686018427387904 < x)) <;> cases e <;> simp
theorem nle1 (n : Nat) : decide ((1 : Int) ≤ ((n : Nat) : Int)) = decide (1 ≤ n) := by rw [Bool.eq_iff_iff]; simp; omega
theorem nle16 (n : Nat) : decide (((n : Nat) : Int) ≤ 16) = decide (n ≤ 16) := by rw [Bool.eq_iff_iff]; simp; omega
theorem e_vRight (v : List Int) : m_vect_Right v = some (vRight v) := by
  unfold m_vect_Right vRight
  rw [vR_go (e := decide ((1 : Int) ≤ ((v.length : Nat) : Int)) && decide (((v.length : Nat) : Int) ≤ 16)) (fun f i x => by unfold m_vect_Right_b1; rfl), nle1, nle16]
theorem vR_len {v : List Int} (h : vRight v = true) : v.length ≤ 16 := by
  unfold vRight at h
  rw [Bool.and_eq_true_iff, Bool.and_eq_true_iff] at h
  exact of_decide_eq_true h.1.2
def firstW (own : List Rec) (hashes : List Int) : List Wy := (difN (kidsV own []) hashes).map Wy.one
theorem WI.first (own : List Rec) (hashes : List Int) : WI (firstW own hashes) := by
  refine ⟨nodup_map (fun a b (hab : Wy.one a = Wy.one b) => by injection hab) (difN_nodup _ _), fun x hx => ?_, fun d e h => ?_⟩
  · obtain ⟨d, hd, rfl⟩ := List.mem_map.1 hx
    exact (difN_mem hd).1
  · obtain ⟨d2, hd, h2⟩ := List.mem_map.1 h
    cases h2
theorem e_Begin {p : Opull_Pull} {own S : List Rec} (h : PS p own S []) {vec : List Int} (hashes : List Int) (hb : p.begun = false) (hv : vRight vec = true) :
    ∃ p', m_pull_Pull_Begin p vec hashes = some (p', true) ∧ PS p' own S (firstW own hashes) ∧ p'.id = p.id ∧ p'.begun = true ∧ p'.vec = vec := by
  unfold m_pull_Pull_Begin
  rw [e_vRight, gcall_s, Option.bind_some, hb, Bool.not_false, cond_true, hv, Bool.not_true, Bool.or_self, cond_false, e_clone64 (by have := vR_len hv; rw [lim_v]; omega), Option.bind_some]
  obtain ⟨r, e1, v1, g1⟩ := e_TKids h.ol h.own []
  rw [e1, Option.bind_some, v1, e_Differ, Option.bind_some, h.wants, List.map_nil]
  have hdl : (difN (kidsV own []) hashes).length ≤ 16 := by have := dif_len16 (kidsV own []) hashes; unfold dif at this; rwa [List.length_map] at this
  unfold firstW
  show ∃ p', forI _ _ 0 ((difN (kidsV own []) hashes).map (fun i : Nat => ((i : Nat) : Int))) _ = _ ∧ _
  generalize difN (kidsV own []) hashes = D at hdl ⊢
  refine ⟨⟨p.id, r.1, true, vec, (D.map Wy.one).map Wy.way, p.staged⟩, ?_, ⟨h.ol, rfl, g1, h.st⟩, rfl, rfl, rfl⟩
  refine forI_run (fun i (o : Opull_Pull) => o = ⟨p.id, r.1, true, vec, ((D.take i).map Wy.one).map Wy.way, p.staged⟩) (fun o hI => ?_) (fun f i o hi hI hf => ?_) rfl
  · rw [List.length_map, List.take_length] at hI
    rw [hI]
  · rw [List.length_map] at hi
    unfold m_pull_Pull_Begin_b1
    rw [hI]
    simp only
    rw [chk_t (decide_eq_true (by rw [lim_v]; simp only [List.length_map, List.length_take]; omega))]
    refine hf _ ?_
    congr 1
    rw [take_gt hi, List.map_append, List.map_append, gt_map (fun i : Nat => ((i : Nat) : Int)) hi]
    rfl
theorem e_NewPull_w (id : Int) {own : List Rec} (hok : ∀ r ∈ own, RecOk r) (hl : own.length ≤ 4194304) (hr : ∀ r ∈ own, rr r = true) : ∃ p, m_pull_NewPull id own = some (some p, 0) ∧ PS p (addL own) [] [] ∧ p.id = id ∧ p.begun = false ∧ p.vec = [] := by
  unfold m_pull_NewPull
  obtain ⟨o, h1, h2⟩ := e_New_t hok hr
  have := addL_len own
  rw [h1, Option.bind_some, show (((0 : Int)) != 0) = false from rfl, cond_false, e_New0, Option.bind_some, Option.bind_some, Option.bind_some]
  exact ⟨_, rfl, ⟨by omega, rfl, h2, good0⟩, rfl, rfl, rfl⟩
theorem e_NewPull_t (id : Int) {own : List Rec} (hok : ∀ r ∈ own, RecOk r) (hl : own.length ≤ 1048576) (hr : ∀ r ∈ own, rr r = true) : ∃ p, m_pull_NewPull id own = some (some p, 0) ∧ PS p (addL own) [] [] ∧ p.id = id ∧ p.begun = false ∧ p.vec = [] := e_NewPull_w id hok (by omega) hr
theorem e_NewPull_f (id : Int) {own : List Rec} (hok : ∀ r ∈ own, RecOk r) (hr : ∃ r ∈ own, rr r = false) : m_pull_NewPull id own = some (none, 1) := by
  unfold m_pull_NewPull
  rw [e_New_f hok hr, Option.bind_some]; rfl
structure CS (c : Opull_Cut) (id : Int) (vec : List Int) (all : List Rec) : Prop where
  vl : vec.length ≤ 16
  al : all.length ≤ 4194304
  id : c.id = id
  vec : c.vec = vec
  tree : Good c.tree all
theorem e_NewCut_w (id : Int) {vec : List Int} {list : List Rec} (hok : ∀ r ∈ list, RecOk r) (hl : list.length ≤ 4194304) (hr : ∀ r ∈ list, rr r = true) (hv : vRight vec = true) : ∃ c, m_pull_NewCut id vec list = some (some c, 0) ∧ CS c id vec (addL list) := by
  unfold m_pull_NewCut
  obtain ⟨o, h1, h2⟩ := e_New_t hok hr
  have := addL_len list
  have hvl := vR_len hv
  rw [h1, Option.bind_some, e_vRight, gcall_s, Option.bind_some]
  simp only
  rw [show (!(((0 : Int)) != 0)) = true from rfl, cond_true, hv, show (((0 : Int)) != 0) = false from rfl, Bool.not_true, Bool.or_self, cond_false, e_clone64 (by rw [lim_v]; omega), Option.bind_some, Option.bind_some]
  exact ⟨_, rfl, hvl, by omega, rfl, rfl, h2⟩
theorem e_NewCut_t (id : Int) {vec : List Int} {list : List Rec} (hok : ∀ r ∈ list, RecOk r) (hl : list.length ≤ 1048576) (hr : ∀ r ∈ list, rr r = true) (hv : vRight vec = true) : ∃ c, m_pull_NewCut id vec list = some (some c, 0) ∧ CS c id vec (addL list) := e_NewCut_w id hok (by omega) hr hv
theorem e_NewCut_f (id : Int) {vec : List Int} {list : List Rec} (hok : ∀ r ∈ list, RecOk r) (h : (∃ r ∈ list, rr r = false) ∨ vRight vec = false) : m_pull_NewCut id vec list = some (none, 1) := by
  unfold m_pull_NewCut
  rcases all_or list with hr | hr
  · have hv : vRight vec = false := by
      rcases h with ⟨r, h1, h2⟩ | h
      · rw [hr r h1] at h2; cases h2
      · exact h
    obtain ⟨o, h1, h2⟩ := e_New_t hok hr
    rw [h1, Option.bind_some, e_vRight, gcall_s, Option.bind_some, hv]; rfl
  · rw [e_New_f hok hr, Option.bind_some, e_vRight, gcall_s, Option.bind_some]; rfl
theorem e_CVec {c : Opull_Cut} {id : Int} {vec : List Int} {all : List Rec} (h : CS c id vec all) : m_pull_Cut_Vec c = some vec := by
  unfold m_pull_Cut_Vec
  have := h.vl
  rw [h.vec, e_clone64 (by rw [lim_v]; omega), Option.bind_some]
theorem e_COpen {c : Opull_Cut} {id : Int} {vec : List Int} {all : List Rec} (h : CS c id vec all) : ∃ c', m_pull_Cut_Open c = some (c', kidsV all []) ∧ CS c' id vec all := by
  unfold m_pull_Cut_Open
  have := h.al
  obtain ⟨r, e1, v1, g1⟩ := e_TKids (by omega) h.tree []
  rw [e1, Option.bind_some, v1]
  exact ⟨_, rfl, h.vl, h.al, h.id, h.vec, g1⟩
theorem out_ok {path : List Int} (hl : path.length ≤ 2) : path.any (fun d => decide (d < 0) || decide (15 < d)) = !okP path := by
  unfold okP
  rw [decide_eq_true hl, Bool.true_and, List.not_all_eq_any_not]
  congr 1
  funext d
  rw [Bool.eq_iff_iff]; simp
def wantV (all : List Rec) (path : List Int) : List Int × List Rec × Bool := bif okP path && decide (1 ≤ path.length) then (bif decide (path.length = 1) then (kidsV all path, [], true) else ([], rcV all path, true)) else ([], [], false)
theorem e_CWant {c : Opull_Cut} {id : Int} {vec : List Int} {all : List Rec} (h : CS c id vec all) (path : List Int) : ∃ c', m_pull_Cut_Want c path = some (c', wantV all path) ∧ CS c' id vec all := by
  unfold m_pull_Cut_Want
  have hal := h.al
  rw [e_out, Option.bind_some]
  by_cases hl : path.length ≤ 2
  · rw [out_ok hl]
    unfold wantV
    cases ho : okP path with
    | false => exact ⟨c, rfl, h⟩
    | true =>
      rw [Bool.not_true, cond_false, Bool.true_and]
      match path, hl with
      | [], _ => exact ⟨c, rfl, h⟩
      | [a], _ =>
        obtain ⟨r, e1, v1, g1⟩ := e_TKids (by omega) h.tree [a]
        show ∃ c', (Option.bind (m_tree_Tree_Kids m_tree_Tree_Hash c.tree [a]) _) = _ ∧ _
        rw [e1, Option.bind_some, v1]
        exact ⟨_, rfl, h.vl, h.al, h.id, h.vec, g1⟩
      | [a, b], _ =>
        show ∃ c', (Option.bind (m_tree_Tree_Recs c.tree [a, b]) _) = _ ∧ _
        rw [e_RecsV h.tree (by omega), Option.bind_some]
        exact ⟨_, rfl, h⟩
  · have ho : okP path = false := by
      unfold okP; rw [decide_eq_false hl]; rfl
    have e1 : ((((path.length : Nat) : Int)) == 1) = false := by rw [beq_eq_false_iff_ne]; omega
    have e2 : ((((path.length : Nat) : Int)) == 2) = false := by rw [beq_eq_false_iff_ne]; omega
    unfold wantV
    rw [ho, e1, e2]
    cases path.any (fun d => decide (d < 0) || decide (15 < d)) <;> exact ⟨c, rfl, h⟩
theorem e_Staged {p : Opull_Pull} {own S : List Rec} {W : List Wy} (h : PS p own S W) (hl : S.length ≤ 4194304) : m_pull_Pull_Staged p = some S := by
  unfold m_pull_Pull_Staged
  rw [e_RecsV h.st hl, Option.bind_some]
  unfold rcV
  rw [show okP [] = true from rfl, cond_true, all_i]
theorem e_PVec {p : Opull_Pull} (h : p.vec.length ≤ 16) : m_pull_Pull_Vec p = some p.vec := by
  unfold m_pull_Pull_Vec
  rw [e_clone64 (by rw [lim_v]; omega), Option.bind_some]
theorem e_Done (p : Opull_Pull) : m_pull_Pull_Done p = some (p.begun && p.wants.isEmpty) := by
  unfold m_pull_Pull_Done
  congr 2
  cases p.wants with
  | nil => rfl
  | cons x l => rw [List.isEmpty_cons, beq_eq_false_iff_ne]; simp only [List.length_cons]; omega
theorem e_rOwn {r : Rec} (h : RecOk r) : m_firthref10_Own r = some r := by
  unfold m_firthref10_Own
  have hl := h.vers.1
  refine forI_run (fun i s => s = r.vers.take i) (fun s hI => ?_) (fun f i s hi hI hf => ?_) rfl
  · rw [List.take_length] at hI; rw [hI]
  · have hv := (h.vers.2 _ (gt_mem hi)).len
    unfold m_firthref10_Own_b1
    rw [chk_t (decide_eq_true (by omega)), chk_t (decide_eq_true (by rw [hI, List.length_take]; omega))]
    exact hf _ (by rw [take_gt hi, hI])
theorem addL_rcs2 {l : List Rec} (hok : ∀ r ∈ l, RecOk r) (hr : ∀ r ∈ l, rr r = true) (hl : l.length ≤ 1048576) : Rcs (addL l) := by
  obtain ⟨o, _, h2⟩ := e_New_t hok hr
  exact addL_rcs hl h2
theorem awake19 : m_firthlaw19_awake = some true := by decide +kernel
def lf (own all : List Rec) (d e : Nat) : Bool := decide (d ∈ difN (kidsV own []) (kidsV all [])) && decide (e ∈ difN (kidsV own [((d : Nat) : Int)]) (kidsV all [((d : Nat) : Int)]))
def pend (W : List Wy) (d e : Nat) : Prop := Wy.one d ∈ W ∨ Wy.two d e ∈ W
structure TI (own all : List Rec) (W : List Wy) (S : List Rec) : Prop where
  wi : WI W
  one : ∀ d, Wy.one d ∈ W → d ∈ difN (kidsV own []) (kidsV all [])
  two : ∀ d e, Wy.two d e ∈ W → lf own all d e = true
  st : ∀ r, r ∈ S ↔ (r ∈ all ∧ lf own all (pa r.key) (pb r.key) = true ∧ ¬ pend W (pa r.key) (pb r.key))
theorem lf_1 {own all : List Rec} {d e : Nat} (h : lf own all d e = true) : d ∈ difN (kidsV own []) (kidsV all []) := of_decide_eq_true (Bool.and_eq_true_iff.1 h).1
theorem lf_2 {own all : List Rec} {d e : Nat} (h : lf own all d e = true) : e ∈ difN (kidsV own [((d : Nat) : Int)]) (kidsV all [((d : Nat) : Int)]) := of_decide_eq_true (Bool.and_eq_true_iff.1 h).2
theorem TI.first (own all : List Rec) : TI own all (firstW own (kidsV all [])) [] := by
  refine ⟨WI.first _ _, fun d h => ?_, fun d e h => ?_, fun r => ⟨fun h => absurd h List.not_mem_nil, fun h => ?_⟩⟩
  · obtain ⟨d2, hd, h2⟩ := List.mem_map.1 h
    injection h2 with h2; subst h2; exact hd
  · obtain ⟨d2, hd, h2⟩ := List.mem_map.1 h
    cases h2
  · exact absurd (.inl (List.mem_map.2 ⟨_, lf_1 h.2.1, rfl⟩)) h.2.2
theorem foldl_sub {all : List Rec} (hs : SR all) (hv : ∀ r ∈ all, r.vers ≠ []) : ∀ {l S : List Rec}, (∀ r ∈ l, r ∈ all) → (∀ r ∈ S, r ∈ all) → ∀ r, r ∈ l.foldl withr S ↔ (r ∈ l ∨ r ∈ S)
  | [], S, _, _, r => by simp
  | a :: l, S, hl, hS, r => by
    have ha := hl a (by simp)
    have hS2 : ∀ r, r ∈ withr S a ↔ (r = a ∨ r ∈ S) := fun r => by
      rw [mem_withr]
      constructor
      · rintro (⟨h, _⟩ | ⟨h, _⟩)
        · exact .inl h
        · exact .inr h
      · rintro (h | h)
        · exact .inl ⟨h, hv a ha⟩
        · by_cases e : r.key = a.key
          · exact .inl ⟨sr_key hs (hS r h) ha e, hv a ha⟩
          · exact .inr ⟨h, e⟩
    rw [List.foldl_cons, foldl_sub hs hv (fun r h => hl r (List.mem_cons_of_mem _ h)) (fun r h => by
      rcases (hS2 r).1 h with rfl | h
      · exact ha
      · exact hS r h) r, hS2, List.mem_cons]
    constructor
    · rintro (h | h | h)
      · exact .inl (.inr h)
      · exact .inl (.inl h)
      · exact .inr h
    · rintro ((h | h) | h)
      · exact .inr (.inl h)
      · exact .inl h
      · exact .inr (.inr h)
theorem want_one (all : List Rec) {d : Nat} (hd : d < 16) : wantV all (Wy.one d).path = (kidsV all [((d : Nat) : Int)], [], true) := by
  unfold wantV
  show (bif okP [((d : Nat) : Int)] && decide (1 ≤ 1) then _ else _) = _
  rw [ok1 hd]; rfl
theorem want_two (all : List Rec) {d e : Nat} (hd : d < 16) (he : e < 16) : wantV all (Wy.two d e).path = ([], rcV all [((d : Nat) : Int), ((e : Nat) : Int)], true) := by
  unfold wantV
  show (bif okP [((d : Nat) : Int), ((e : Nat) : Int)] && decide (1 ≤ 2) then _ else _) = _
  rw [ok2 hd he]; rfl
theorem mem_rc {all : List Rec} {d e : Nat} (hd : d < 16) (he : e < 16) {r : Rec} : r ∈ rcV all [((d : Nat) : Int), ((e : Nat) : Int)] ↔ (r ∈ all ∧ pa r.key = d ∧ pb r.key = e) := by
  unfold rcV
  rw [ok2 hd he, cond_true, List.mem_filter, inK_eq, inK2, Bool.and_eq_true_iff, decide_eq_true_eq, decide_eq_true_eq]
theorem told_step {own all S : List Rec} {W : List Wy} (hI : TI own all W S) (hA : Rcs all) (hs : SR all) (hv : ∀ r ∈ all, r.vers ≠ []) {x : Wy} (hx : x ∈ W) :
    (wantV all x.path).2.2 = true ∧ odd x (wantV all x.path).2.1 = false ∧ (∀ r ∈ (wantV all x.path).2.1, RecOk r) ∧ TI own all (W.erase x ++ rest own (wantV all x.path).1 x) (laidS x (wantV all x.path).2.1 S) := by
  have hok := hI.wi.ok x hx
  have hmE : ∀ y, y ∈ W.erase x ↔ (y ∈ W ∧ y ≠ x) := fun y => by rw [hI.wi.nd.mem_erase_iff, and_comm]
  cases x with
  | one d =>
    rw [want_one all hok]
    refine ⟨rfl, rfl, fun r h => absurd h List.not_mem_nil, hI.wi.told hx own _, fun d2 h => ?_, fun d2 e2 h => ?_, fun r => ?_⟩
    · rcases List.mem_append.1 h with h | h
      · exact hI.one d2 ((hmE _).1 h).1
      · obtain ⟨e, _, h2⟩ := List.mem_map.1 (show Wy.one d2 ∈ List.map (Wy.two d) _ from h)
        cases h2
    · rcases List.mem_append.1 h with h | h
      · exact hI.two d2 e2 ((hmE _).1 h).1
      · obtain ⟨e, he, h2⟩ := List.mem_map.1 (show Wy.two d2 e2 ∈ List.map (Wy.two d) _ from h)
        injection h2 with h3 h4
        subst h3 h4
        unfold lf
        rw [decide_eq_true (hI.one _ hx), decide_eq_true he]; rfl
    · show r ∈ S ↔ _
      rw [hI.st r]
      constructor
      · rintro ⟨h1, h2, h3⟩
        refine ⟨h1, h2, fun h4 => h3 ?_⟩
        rcases h4 with h4 | h4
        · rcases List.mem_append.1 h4 with h4 | h4
          · exact .inl ((hmE _).1 h4).1
          · obtain ⟨e, _, h5⟩ := List.mem_map.1 (show Wy.one _ ∈ List.map (Wy.two d) _ from h4)
            cases h5
        · rcases List.mem_append.1 h4 with h4 | h4
          · exact .inr ((hmE _).1 h4).1
          · obtain ⟨e, _, h5⟩ := List.mem_map.1 (show Wy.two _ _ ∈ List.map (Wy.two d) _ from h4)
            injection h5 with h6 h7
            rw [← h6]; exact .inl hx
      · rintro ⟨h1, h2, h3⟩
        refine ⟨h1, h2, fun h4 => h3 ?_⟩
        rcases h4 with h4 | h4
        · by_cases e : pa r.key = d
          · refine .inr (List.mem_append_right _ ?_)
            have := lf_2 h2
            rw [e] at this ⊢
            exact List.mem_map.2 ⟨_, this, rfl⟩
          · exact .inl (List.mem_append_left _ ((hmE _).2 ⟨h4, fun h => e (by injection h)⟩))
        · exact .inr (List.mem_append_left _ ((hmE _).2 ⟨h4, fun h => by cases h⟩))
  | two d e =>
    rw [want_two all hok.1 hok.2]
    have hno : Wy.one d ∉ W := hI.wi.no d e hx
    have hsub : ∀ r ∈ rcV all [((d : Nat) : Int), ((e : Nat) : Int)], r ∈ all := fun r h => rcV_sub h
    refine ⟨rfl, ?_, fun r h => (hA.ok r (hsub r h)).1, hI.wi.told hx own _, fun d2 h => ?_, fun d2 e2 h => ?_, fun r => ?_⟩
    · show List.any _ _ = false
      rw [List.any_eq_false]
      intro r hr
      obtain ⟨h1, h2, h3⟩ := (mem_rc hok.1 hok.2).1 hr
      have : ben (.two d e) r = true := by
        unfold ben
        rw [(hA.ok r h1).2, h2, h3, Bool.true_and]
        exact decide_eq_true rfl
      simp [this]
    · have h : Wy.one d2 ∈ W.erase (.two d e) ++ [] := h
      rw [List.append_nil] at h
      exact hI.one d2 ((hmE _).1 h).1
    · have h : Wy.two d2 e2 ∈ W.erase (.two d e) ++ [] := h
      rw [List.append_nil] at h
      exact hI.two d2 e2 ((hmE _).1 h).1
    · show r ∈ List.foldl withr S (rcV all [((d : Nat) : Int), ((e : Nat) : Int)]) ↔ (_ ∧ _ ∧ ¬ pend (W.erase (.two d e) ++ []) _ _)
      rw [List.append_nil, foldl_sub hs hv hsub (fun r h => ((hI.st r).1 h).1), hI.st r, mem_rc hok.1 hok.2]
      constructor
      · rintro (⟨h1, h2, h3⟩ | ⟨h1, h2, h3⟩)
        · refine ⟨h1, by rw [h2, h3]; exact hI.two d e hx, fun h4 => ?_⟩
          rw [h2, h3] at h4
          rcases h4 with h4 | h4
          · exact hno ((hmE _).1 h4).1
          · exact ((hmE _).1 h4).2 rfl
        · refine ⟨h1, h2, fun h4 => h3 ?_⟩
          rcases h4 with h4 | h4
          · exact .inl ((hmE _).1 h4).1
          · exact .inr ((hmE _).1 h4).1
      · rintro ⟨h1, h2, h3⟩
        by_cases hde : pa r.key = d ∧ pb r.key = e
        · exact .inl ⟨h1, hde.1, hde.2⟩
        · refine .inr ⟨h1, h2, fun h4 => h3 ?_⟩
          rcases h4 with h4 | h4
          · exact .inl ((hmE _).2 ⟨h4, fun h => by cases h⟩)
          · exact .inr ((hmE _).2 ⟨h4, fun h => hde (by injection h with h5 h6; exact ⟨h5, h6⟩)⟩)
theorem sum_erase {w : Wy → Nat} : ∀ {W : List Wy} {x : Wy}, x ∈ W → ((W.erase x).map w).sum + w x = (W.map w).sum
  | y :: W, x, h => by
    by_cases e : y = x
    · subst e; rw [List.erase_cons_head, List.map_cons, List.sum_cons]; omega
    · rw [List.erase_cons_tail (by simpa using e), List.map_cons, List.sum_cons, List.map_cons, List.sum_cons]
      have := sum_erase (w := w) (W := W) (x := x) (by
        rcases List.mem_cons.1 h with h | h
        · exact absurd h.symm e
        · exact h)
      omega
def mw : Wy → Nat
  | .one _ => 17
  | .two _ _ => 1
def mu (W : List Wy) : Nat := (W.map mw).sum
theorem sum_const {α : Type} (k : Nat) : ∀ (l : List α), (l.map (fun _ => k)).sum = l.length * k
  | [] => by simp
  | _ :: l => by rw [List.map_cons, List.sum_cons, sum_const k l, List.length_cons, Nat.add_mul]; omega
theorem difN_len (a b : List Int) : (difN a b).length ≤ 16 := by have := dif_len16 a b; unfold dif at this; rwa [List.length_map] at this
theorem mu_step {W : List Wy} {x : Wy} (hx : x ∈ W) (own : List Rec) (hashes : List Int) : mu (W.erase x ++ rest own hashes x) + 1 ≤ mu W := by
  have h1 := sum_erase (w := mw) hx
  unfold mu
  rw [List.map_append, List.sum_append]
  cases x with
  | one d =>
    have h2 : ((rest own hashes (.one d)).map mw).sum = (difN (kidsV own [((d : Nat) : Int)]) hashes).length * 1 := by
      show (((difN (kidsV own [((d : Nat) : Int)]) hashes).map (Wy.two d)).map mw).sum = _
      rw [List.map_map]
      exact sum_const 1 _
    have h3 := difN_len (kidsV own [((d : Nat) : Int)]) hashes
    have h4 : mw (.one d) = 17 := rfl
    omega
  | two d e =>
    have h2 : ((rest own hashes (.two d e)).map mw).sum = 0 := rfl
    have h4 : mw (.two d e) = 1 := rfl
    omega
theorem mu_first (own : List Rec) (hashes : List Int) : mu (firstW own hashes) ≤ 272 := by
  unfold mu firstW
  rw [List.map_map]
  have h2 : (List.map (mw ∘ Wy.one) (difN (kidsV own []) hashes)).sum = (difN (kidsV own []) hashes).length * 17 := sum_const 17 _
  have h3 := difN_len (kidsV own []) hashes
  omega
def FS (own all : List Rec) : List Rec := all.filter (fun r => lf own all (pa r.key) (pb r.key))
theorem TI.done {own all S : List Rec} (h : TI own all [] S) (hS : SR S) (hs : SR all) : S = FS own all :=
  sr_ext hS (sr_filter _ hs) fun r => by
    rw [h.st r]
    unfold FS
    rw [List.mem_filter]
    constructor
    · rintro ⟨h1, h2, _⟩; exact ⟨h1, h2⟩
    · rintro ⟨h1, h2⟩
      refine ⟨h1, h2, fun h3 => ?_⟩
      rcases h3 with h3 | h3 <;> cases h3
theorem fs_sub {own all : List Rec} {r : Rec} (h : r ∈ FS own all) : r ∈ all := (List.mem_filter.1 h).1
theorem fs_len (own all : List Rec) : (FS own all).length ≤ all.length := List.length_filter_le _ _
end Fw
end Go.Proofs.YtiakfgdgafljnaaGreat

namespace Go.Proofs.YtiakfgdgafljnaaGreat
namespace Fw
set_option linter.unusedVariables false
set_option linter.unusedSimpArgs false
set_option linter.unusedSectionVars false

theorem mine_loop {K : List Rec → Option Bool} : ∀ (l : List Rec) (i : Nat) (out : List Rec), (∀ r ∈ l, RecOk r) → out.length + l.length ≤ lim → forI m_firthlaw19_PullKeeps_b1 K i l out = K (out ++ l)
  | [], i, out, _, _ => by rw [List.append_nil]; rfl
  | r :: l, i, out, h, hl => by
    rw [List.length_cons] at hl
    have ih := mine_loop (K := K) l (i + 1) (out ++ [r]) (fun x hx => h x (List.mem_cons_of_mem _ hx)) (by rw [List.length_append, List.length_singleton]; omega)
    show (m_firthref10_Own r).bind (fun z21 => chk (decide (out.length + 1 ≤ lim)) (forI m_firthlaw19_PullKeeps_b1 K (i + 1) l (out ++ [z21]))) = _
    rw [e_rOwn (h r List.mem_cons_self), Option.bind_some, chk_t (decide_eq_true (by omega)), ih, List.append_assoc]
    rfl
theorem hash_loop {K : List Int → Option Bool} {b : Option Bool} (hK : ∀ x, K x = b) : ∀ (n i : Nat) (x : List Int), forU m_firthlaw19_PullKeeps_b2 K n i x = b
  | 0, _, x => hK x
  | n + 1, i, x => hash_loop hK n (i + 1) _
theorem tell_l (p : Opull_Pull) (a b : List Int) (l : List Rec) : m_pull_Pull_Tell_l1 p a b l = m_pull_Pull_Tell p a b l := rfl
theorem wants_l (p : Opull_Pull) : m_pull_Pull_Wants_l1 p = m_pull_Pull_Wants p := rfl
theorem v34 : vRight [3, 4] = true := by decide
/-- one round, and what it leaves -/
theorem round2 {own all S : List Rec} {W : List Wy} {p : Opull_Pull} {c : Opull_Cut} {id : Int} {vec : List Int} (hp : PS p own S W) (hc : CS c id vec all) (hI : TI own all W S) (hA : Rcs all) (hs : SR all) (hv : ∀ r ∈ all, r.vers ≠ []) {x : Wy} (hx : x ∈ W) :
    ∃ c' p' S', m_pull_Cut_Want c x.path = some (c', wantV all x.path) ∧ (wantV all x.path).2.2 = true ∧ m_pull_Pull_Tell p x.path (wantV all x.path).1 (wantV all x.path).2.1 = some (p', true) ∧ CS c' id vec all ∧ PS p' own S' (W.erase x ++ rest own (wantV all x.path).1 x) ∧ TI own all (W.erase x ++ rest own (wantV all x.path).1 x) S' ∧ p'.begun = p.begun ∧ p'.vec = p.vec := by
  obtain ⟨h1, h2, h3, h4⟩ := told_step hI hA hs hv hx
  obtain ⟨c', e1, g1⟩ := e_CWant hc x.path
  obtain ⟨p', e2, g2, g3, g4, g5⟩ := tell_yes hp hI.wi hx (wantV all x.path).1 h3 h2
  exact ⟨c', p', _, e1, h1, e2, g1, g2, h4, g4, g5⟩
/-- what is left to be seen when nothing is wanted any more -/
theorem tail_j3 {own cut : List Rec} {p : Opull_Pull} {c : Opull_Cut} {id : Int} (hok : ∀ r ∈ cut, RecOk r) (hr : ∀ r ∈ cut, rr r = true) (hl : cut.length ≤ 1048576) (hp : PS p own (FS own (addL cut)) []) (hc : CS c id [3, 4] (addL cut)) (hb : p.begun = true) (hv : p.vec = [3, 4]) : m_firthlaw19_PullKeeps_j3 cut p c = some true := by
  have hal := addL_len cut
  have hfl := fs_len own (addL cut)
  unfold m_firthlaw19_PullKeeps_j3
  rw [e_Staged hp (by omega), Option.bind_some]
  unfold m_firthlaw19_spoil
  rw [Option.bind_some, Option.bind_some, e_Held_t hok (by rw [lim_v]; omega) hr, Option.bind_some]
  refine forI_run (fun i s => True) (fun s _ => ?_) (fun f i s hi _ hf => ?_) trivial
  · rw [e_Done, Option.bind_some, hb, hp.wants]
    simp only [List.map_nil, List.isEmpty_nil, Bool.and_self, cond_true]
    rw [e_CVec hc, Option.bind_some, e_Same4, Option.bind_some, decide_eq_true rfl, cond_true, e_PVec (by rw [hv]; decide), Option.bind_some, hv, e_Same4, Option.bind_some, decide_eq_true rfl]
  · have hm := fs_sub (gt_mem hi)
    unfold m_firthlaw19_PullKeeps_b6
    rw [e_Get, Option.bind_some, gvR_mem (addL_sr cut) hm, e_r5Same, Option.bind_some, r5Same_iff.2 rfl, Bool.not_true, cond_false]
    exact hf _ trivial
theorem keeps_law {own cut : List Rec} (hok : ∀ r ∈ own, RecOk r) (hl : own.length ≤ 1048576) (hokc : ∀ r ∈ cut, RecOk r) (hlc : cut.length ≤ 1048576) : m_firthlaw19_PullKeeps own cut = some true := by
  unfold m_firthlaw19_PullKeeps
  rw [awake19, Option.bind_some, Bool.not_true, cond_false, mine_loop cut 0 [] hokc (by rw [lim_v, List.length_nil]; omega), List.nil_append]
  rcases all_or cut with hrc | hrc
  · obtain ⟨c, c1, c2⟩ := e_NewCut_t 1 hokc hlc hrc v34
    rw [c1, Option.bind_some]
    rcases all_or own with hro | hro
    · obtain ⟨p, p1, p2, p3, p4, p5⟩ := e_NewPull_t 1 hok hl hro
      rw [p1, Option.bind_some]
      simp only [Option.isNone_some, bne_self_eq_false, Bool.or_self, cond_false, Option.bind_some]
      have hA : Rcs (addL cut) := addL_rcs2 hokc hrc hlc
      have hsA := addL_sr cut
      have hvA := addL_vers cut
      unfold m_firthlaw19_spoil
      rw [Option.bind_some, e_CVec c2, Option.bind_some, chk_t (decide_eq_true (by decide))]
      obtain ⟨c', e1, g1⟩ := e_COpen c2
      rw [e1, Option.bind_some]
      simp only
      rw [e_CVec g1, Option.bind_some]
      obtain ⟨p', b1, b2, b3, b4, b5⟩ := e_Begin p2 (kidsV (addL cut) []) p4 v34
      rw [b1, Option.bind_some]
      refine hash_loop (fun _ => ?_) _ _ _
      generalize hO : addL own = O at *
      have htail : ∀ (p1 : Opull_Pull) (c1 : Opull_Cut) (S : List Rec), PS p1 O S [] → CS c1 1 [3, 4] (addL cut) → TI O (addL cut) [] S → p1.begun = true → p1.vec = [3, 4] → m_firthlaw19_PullKeeps_j3 cut p1 c1 = some true := fun p1 c1 S k1 k2 k3 k4 k5 => by
        have := k3.done k1.st.srt hsA
        subst this
        exact tail_j3 hokc hrc hlc k1 k2 k4 k5
      refine forU_run (fun i (s : Opull_Pull × Opull_Cut) => ∃ W S, PS s.1 O S W ∧ CS s.2 1 [3, 4] (addL cut) ∧ TI O (addL cut) W S ∧ mu W + i ≤ 272 ∧ s.1.begun = true ∧ s.1.vec = [3, 4]) (fun s hI => ?_) (fun f i s hi hI hf => ?_) (s := (_, _)) ⟨_, [], b2, g1, TI.first O (addL cut), by have := mu_first O (kidsV (addL cut) []); omega, b4, b5⟩
      · obtain ⟨W, S, _, _, _, h, _⟩ := hI; omega
      · obtain ⟨p1, c1⟩ := s
        obtain ⟨W, S, k1, k2, k3, k4, k5, k6⟩ := hI
        simp only at k1 k2 k5 k6
        unfold m_firthlaw19_PullKeeps_b5
        simp only
        rw [wants_l, e_Wants k1.wants k3.wi.len, Option.bind_some, List.length_map]
        by_cases h0 : W = []
        · subst h0
          exact htail p1 c1 S k1 k2 k3 k5 k6
        · have hpos : 0 < W.length := List.length_pos_iff.2 h0
          have hWl := k3.wi.len
          rw [show ((((W.length : Nat) : Int)) == 0) = false by rw [beq_eq_false_iff_ne]; omega, cond_false]
          obtain ⟨c2, p2, S2, e1, e2, e3, q1, q2, q3, q4, q5⟩ := round2 k1 k2 k3 hA hsA hvA (gt_mem hpos)
          have hmu := mu_step (gt_mem hpos) O (wantV (addL cut) (gt W 0).path).1
          have hpl := path_len (gt W 0)
          rw [chk_t (decide_eq_true hpos), gt_map Wy.path hpos, chk_t (decide_eq_true (by rw [lim_v]; omega)), e1, Option.bind_some]
          simp only
          rw [e2, Bool.not_true, Bool.not_false, cond_true, tell_l, e3, Option.bind_some]
          simp only [Bool.not_true, Bool.not_false, cond_true, cond_false]
          unfold m_firthlaw19_spoil
          rw [Option.bind_some, chk_t (decide_eq_true (by omega))]
          exact hf (p2, c2) ⟨_, S2, q2, q1, q3, by omega, by rw [q4]; exact k5, by rw [q5]; exact k6⟩
    · rw [e_NewPull_f 1 hok hro, Option.bind_some]
      rfl
  · rw [e_NewCut_f 1 hokc (.inl hrc), Option.bind_some]
    rcases all_or own with hro | hro
    · obtain ⟨p, p1, _⟩ := e_NewPull_t 1 hok hl hro
      rw [p1, Option.bind_some]
      rfl
    · rw [e_NewPull_f 1 hok hro, Option.bind_some]
      rfl
theorem p_firthlaw19_PullKeeps {Γ : Gh} {Aown : Option Addr} {cown : Nat} {own : List Rec} (hown : Sl recT Γ Aown own) (hownc : own.length ≤ cown) {Acut : Option Addr} {ccut : Nat} {cut : List Rec} (hcut : Sl recT Γ Acut cut) (hcutc : cut.length ≤ ccut) (hb : bkL Rec.bk own ≤ 1048576) (hb2 : bkL Rec.bk cut ≤ 1048576) : m_firthlaw19_PullKeeps own cut = some true :=
  keeps_law (sl_recOk hown) (recs_len hb) (sl_recOk hcut) (recs_len hb2)
end Fw
end Go.Proofs.YtiakfgdgafljnaaGreat
