/- The plain models of layer 16. -/
import Derived.Test.YtlbdlkgboliikaaP1
namespace Go.Proofs.Ytlbdlkgboliikaa
namespace Fw
set_option linter.unusedVariables false
set_option linter.unusedSimpArgs false
set_option linter.unusedSectionVars false

abbrev AskB := Oquorum_asking_bool
abbrev AskV := Oquorum_asking_api_Ver
abbrev Ask16 := Ofirthref16_Ask
def firstFrom (p : Nat → Bool) (k n : Nat) : Int := match (List.range' k (n - k)).find? p with
  | some i => i
  | none => -1
theorem firstFrom_step {p : Nat → Bool} {k n : Nat} (h : k < n) : firstFrom p k n = bif p k then (k : Int) else firstFrom p (k + 1) n := by
  unfold firstFrom
  rw [show n - k = (n - (k + 1)) + 1 by omega, List.range'_succ, List.find?_cons]
  cases p k <;> rfl
theorem firstFrom_end {p : Nat → Bool} {k n : Nat} (h : n ≤ k) : firstFrom p k n = -1 := by
  unfold firstFrom
  rw [show n - k = 0 by omega]; rfl
theorem firstFrom_lt {p : Nat → Bool} {n : Nat} : ∀ {k : Nat}, -1 ≤ firstFrom p k n ∧ firstFrom p k n < (n : Int) := by
  intro k
  unfold firstFrom
  split
  · rename_i i h
    have := List.mem_of_find?_eq_some h
    have := List.mem_range'_1.1 this
    omega
  · omega

def sel (p : Nat → Bool) (f : Nat → Int) (n : Nat) : List Int := (List.range n).flatMap (fun k => bif p k then [f k] else [])
theorem sel_step (p : Nat → Bool) (f : Nat → Int) (k : Nat) : sel p f (k + 1) = sel p f k ++ (bif p k then [f k] else []) := by
  unfold sel
  rw [List.range_succ, List.flatMap_append]
  simp
theorem sel_len (p : Nat → Bool) (f : Nat → Int) (k : Nat) : (sel p f k).length ≤ k := by
  induction k with
  | zero => simp [sel]
  | succ k ih => rw [sel_step]; cases p k <;> simp <;> omega

def qBad (list : List Int) (need : Int) : Bool := ((decide ((list.length : Int) < 1) || decide ((8 : Int) < (list.length : Int))) || decide (need < 1)) || decide ((list.length : Int) < need)
def qOk (list : List Int) (need : Int) : Bool := bif qBad list need then false else allFrom (fun i => !((decide (gt list i < 1) || decide (8 < gt list i)) || decide (0 ≤ idxGo (list.take i) (gt list i) 0))) 0 list.length

def AskB.count (a : AskB) (node : Int) (x : Bool) : AskB × Bool := bif ((mget node a.got).isSome || (!(decide (0 ≤ idxGo a.list node 0)))) then (a, false) else (⟨a.list, a.need, mput node x a.got⟩, true)
def AskV.count (a : AskV) (node : Int) (x : List Ver) : AskV × Bool := bif ((mget node a.got).isSome || (!(decide (0 ≤ idxGo a.list node 0)))) then (a, false) else (⟨a.list, a.need, mput node x a.got⟩, true)
def AskB.waits (a : AskB) : List Int := sel (fun k => !(mget (gt a.list k) a.got).isSome) (gt a.list) a.list.length
def AskV.waits (a : AskV) : List Int := sel (fun k => !(mget (gt a.list k) a.got).isSome) (gt a.list) a.list.length
def versGo (got : List (Int × List Ver)) : List Int → List Ver → List Ver
  | [], out => out
  | n :: l, out => versGo got l (bif ((vsMerge out ((mget n got).getD [])).2 == 0) then (vsMerge out ((mget n got).getD [])).1 else out)
def AskV.vers (r : AskV) : List Ver := versGo r.got r.list []
def AskV.behind (r : AskV) : List Int := sel (fun k => (mget (gt r.list k) r.got).isSome && vsLacks ((mget (gt r.list k) r.got).getD []) r.vers) (gt r.list) r.list.length
def AskV.gotv (r : AskV) (node : Int) (l : List Ver) : AskV × Bool := bif ((vsMerge l []).2 == 0) then r.count node (vsMerge l []).1 else (r, false)

/-! the reference -/
def r16Right (list : List Int) (need : Int) : Bool := bif ((((list.length : Int) == 0) || decide ((8 : Int) < (list.length : Int))) || decide (need < 1)) || decide ((list.length : Int) < need) then false else
  allFrom (fun i => !((decide (gt list i < 1) || decide (8 < gt list i)) || inM (list.take i) (gt list i))) 0 list.length
def r16New (list : List Int) (need : Int) : Ask16 := ⟨list, need, List.replicate list.length false, List.replicate list.length [], List.replicate list.length []⟩
def Ask16.place (a : Ask16) (node : Int) : Int := firstFrom (fun i => (gt a.list i == node) && (!(gt a.in_ i))) 0 a.list.length
def Ask16.ack (a : Ask16) (node : Int) : Ask16 := bif decide (0 ≤ a.place node) then ⟨a.list, a.need, a.in_.set (a.place node).toNat true, a.vers, a.recs⟩ else a
def Ask16.gotv (a : Ask16) (node : Int) (l : List Ver) : Ask16 × Bool := bif (decide (a.place node < 0) || (!(r5Right l))) then (a, false) else (⟨a.list, a.need, a.in_.set (a.place node).toNat true, a.vers.set (a.place node).toNat l, a.recs⟩, true)
def Ask16.waits (a : Ask16) : List Int := sel (fun k => !(gt a.in_ k)) (gt a.list) a.list.length
def all16Go : List (List Ver) → List Ver → List Ver
  | [], out => out
  | v :: vs, out => all16Go vs (bif ((r5Merge out v).2 == 0) then (r5Merge out v).1 else out)
def Ask16.all (a : Ask16) : List Ver := all16Go a.vers []
def Ask16.behind (a : Ask16) : List Int := sel (fun k => gt a.in_ k && r5Lacks (gt a.vers k) a.all) (gt a.list) a.list.length
theorem place_lt (a : Ask16) (node : Int) : -1 ≤ a.place node ∧ a.place node < (a.list.length : Int) := firstFrom_lt

theorem all0_iff {p : Nat → Bool} {n : Nat} : allFrom p 0 n = true ↔ ∀ i, i < n → p i = true := by
  unfold allFrom
  rw [List.all_eq_true]
  simp only [List.mem_range'_1, Nat.zero_le, true_and, Nat.sub_zero, Nat.zero_add]
theorem any0_iff {p : Nat → Bool} {n : Nat} : anyFrom p 0 n = true ↔ ∃ i, i < n ∧ p i = true := by
  unfold anyFrom
  rw [List.any_eq_true]
  simp only [List.mem_range'_1, Nat.zero_le, true_and, Nat.sub_zero, Nat.zero_add]
theorem allFrom_congr {p q : Nat → Bool} {n : Nat} (h : ∀ i, i < n → p i = q i) : allFrom p 0 n = allFrom q 0 n := by
  rw [Bool.eq_iff_iff, all0_iff, all0_iff]
  exact ⟨fun h1 i hi => (h i hi) ▸ h1 i hi, fun h1 i hi => (h i hi) ▸ h1 i hi⟩
theorem idxGo_mem {l : List Int} {v : Int} : ∀ {k : Nat}, 0 ≤ idxGo l v k ↔ v ∈ l := by
  induction l with
  | nil => intro k; simp [idxGo]
  | cons x l ih =>
    intro k
    unfold idxGo
    by_cases h : v = x
    · subst h; simp
    · rw [show (v == x) = false by simpa using h, cond_false, ih]; simp [h]
theorem inM_mem {l : List Int} {v : Int} : inM l v = true ↔ v ∈ l := by
  induction l with
  | nil => simp [inM]
  | cons x l ih => rw [inM, Bool.or_eq_true, beq_iff_eq, ih, List.mem_cons, eq_comm]
theorem idxGo_inM (l : List Int) (v : Int) : decide (0 ≤ idxGo l v 0) = inM l v := by
  rw [Bool.eq_iff_iff, decide_eq_true_eq, idxGo_mem, inM_mem]
theorem qOk_eq (list : List Int) (need : Int) : qOk list need = r16Right list need := by
  unfold qOk r16Right qBad
  have h0 : (decide ((list.length : Int) < 1)) = ((list.length : Int) == 0) := by
    rw [Bool.eq_iff_iff, decide_eq_true_eq, beq_iff_eq]; omega
  rw [h0]
  congr 1
  exact allFrom_congr fun i hi => by rw [idxGo_inM]

theorem firstFrom_spec (p : Nat → Bool) (n : Nat) : (firstFrom p 0 n = -1 ∧ ∀ i, i < n → p i = false) ∨ ∃ i, i < n ∧ firstFrom p 0 n = (i : Int) ∧ p i = true := by
  unfold firstFrom
  cases h : (List.range' 0 (n - 0)).find? p with
  | none =>
    left
    refine ⟨rfl, fun i hi => ?_⟩
    have := List.find?_eq_none.1 h i (List.mem_range'_1.2 ⟨by omega, by omega⟩)
    simpa using this
  | some i =>
    right
    have hm := List.mem_range'_1.1 (List.mem_of_find?_eq_some h)
    exact ⟨i, by omega, rfl, List.find?_some h⟩

theorem gt_map {α β : Type} [Inhabited α] [Inhabited β] (f : α → β) {l : List α} {i : Nat} (h : i < l.length) : gt (l.map f) i = f (gt l i) := by
  rw [gt_eq (by simpa using h), gt_eq h]; simp
theorem gt_mem {α : Type} [Inhabited α] {l : List α} {i : Nat} (h : i < l.length) : gt l i ∈ l := by rw [gt_eq h]; exact List.getElem_mem h
theorem mem_gt {α : Type} [Inhabited α] {l : List α} {x : α} (h : x ∈ l) : ∃ i, i < l.length ∧ gt l i = x := by
  obtain ⟨i, hi, rfl⟩ := List.getElem_of_mem h
  exact ⟨i, hi, gt_eq hi⟩
theorem nodup_gt {l : List Int} (h : l.Nodup) {i j : Nat} (hi : i < l.length) (hj : j < l.length) (he : gt l i = gt l j) : i = j := by
  rw [gt_eq hi, gt_eq hj] at he
  exact (List.getElem_inj h).1 he
theorem sel_congr {p q : Nat → Bool} {f g : Nat → Int} {n : Nat} (h : ∀ i, i < n → p i = q i ∧ f i = g i) : sel p f n = sel q g n := by
  induction n with
  | zero => rfl
  | succ n ih =>
    rw [sel_step, sel_step, ih (fun i hi => h i (by omega)), (h n (by omega)).1, (h n (by omega)).2]
theorem filter_gt {l : List Int} {p : Int → Bool} {k : Nat} (h : k < l.length) : (l.take (k + 1)).filter p = (l.take k).filter p ++ (bif p (gt l k) then [gt l k] else []) := by
  rw [take_gt h, List.filter_append]
  cases hp : p (gt l k) <;> simp [List.filter, hp]
theorem sel_filter_take (l : List Int) (q : Int → Bool) : ∀ n, n ≤ l.length → sel (fun k => q (gt l k)) (gt l) n = (l.take n).filter q
  | 0, _ => by simp [sel]
  | n + 1, h => by rw [sel_step, sel_filter_take l q n (by omega), filter_gt (by omega)]
theorem sel_filter (l : List Int) (q : Int → Bool) : sel (fun k => q (gt l k)) (gt l) l.length = l.filter q := by
  rw [sel_filter_take l q l.length (Nat.le_refl _), List.take_length]
theorem filter_split (l : List Int) (q : Int → Bool) : (l.filter q).length + (l.filter (fun n => !q n)).length = l.length := by
  induction l with
  | nil => rfl
  | cons x l ih => cases h : q x <;> simp [List.filter, h] <;> omega
theorem intsM_refl (l : List Int) : intsM l l = true := by
  unfold intsM
  simp only [BEq.rfl, cond_true]
  exact all0_iff.2 fun i _ => by simp

theorem qOk_nodup {list : List Int} {need : Int} (h : qOk list need = true) : list.Nodup := by
  unfold qOk at h
  cases hb : qBad list need with
  | true => rw [hb] at h; cases h
  | false =>
    rw [hb, cond_false, all0_iff] at h
    rw [List.nodup_iff_pairwise_ne, List.pairwise_iff_getElem]
    intro i j hi hj hij he
    have := h j hj
    rw [Bool.not_eq_true', Bool.or_eq_false_iff] at this
    have h2 := this.2
    rw [decide_eq_false_iff_not, idxGo_mem] at h2
    apply h2
    rw [gt_eq hj, ← he]
    exact List.mem_take_iff_getElem.2 ⟨i, by omega, rfl⟩

/-- who is counted, in both -/
structure RelG {β : Type} (list : List Int) (got : List (Int × β)) (in_ : List Bool) : Prop where
  nd : list.Nodup
  i : in_ = list.map (fun n => (mget n got).isSome)
  g : got.length = (list.filter (fun n => (mget n got).isSome)).length

theorem filter_add {l : List Int} (hnd : l.Nodup) {p : Int → Bool} {x : Int} (hx : x ∈ l) (hp : p x = false) : (l.filter (fun n => (decide (n = x)) || p n)).length = (l.filter p).length + 1 := by
  induction l with
  | nil => cases hx
  | cons y l ih =>
    obtain ⟨h1, h2⟩ := List.nodup_cons.1 hnd
    by_cases hy : y = x
    · subst hy
      have : l.filter (fun n => (decide (n = y)) || p n) = l.filter p := List.filter_congr fun n hn => by
        have : n ≠ y := fun e => h1 (e ▸ hn)
        simp [this]
      simp [List.filter, hp, this]
    · have hxl : x ∈ l := by rcases List.mem_cons.1 hx with h | h; exact absurd h.symm hy; exact h
      have := ih h2 hxl
      cases hpy : p y <;> simp [List.filter, hy, hpy, this]

theorem mput_isSome {β : Type} (x : Int) (v : β) (es : List (Int × β)) (n : Int) : (mget n (mput x v es)).isSome = (decide (n = x) || (mget n es).isSome) := by
  rw [mget_mput]
  by_cases h : n = x <;> simp [h]

section
variable {β : Type} {list : List Int} {got : List (Int × β)} {in_ : List Bool}
theorem RelG.isin_len (h : RelG list got in_) : in_.length = list.length := by rw [h.i]; simp
theorem RelG.gt_isin (h : RelG list got in_) {k : Nat} (hk : k < list.length) : gt in_ k = (mget (gt list k) got).isSome := by rw [h.i, gt_map _ hk]
/-- who asks is counted at just one place -/
theorem RelG.place (h : RelG list got in_) (node : Int) : (((mget node got).isSome || !(decide (0 ≤ idxGo list node 0))) = true ∧ firstFrom (fun i => (gt list i == node) && !(gt in_ i)) 0 list.length = -1) ∨
    (((mget node got).isSome || !(decide (0 ≤ idxGo list node 0))) = false ∧ ∃ i, i < list.length ∧ gt list i = node ∧ firstFrom (fun i => (gt list i == node) && !(gt in_ i)) 0 list.length = (i : Int) ∧ mget node got = none ∧ node ∈ list) := by
  rcases firstFrom_spec (fun i => (gt list i == node) && !(gt in_ i)) list.length with ⟨h1, h2⟩ | ⟨i, hi, h1, h2⟩
  · left
    refine ⟨?_, h1⟩
    by_cases hm : node ∈ list
    · obtain ⟨k, hk, he⟩ := mem_gt hm
      have := h2 k hk
      simp only [he, BEq.rfl, Bool.true_and, Bool.not_eq_false'] at this
      rw [h.gt_isin hk, he] at this
      simp [this]
    · rw [Bool.or_eq_true]; right
      rw [Bool.not_eq_true', decide_eq_false_iff_not, idxGo_mem]; exact hm
  · right
    simp only [Bool.and_eq_true, beq_iff_eq, Bool.not_eq_true'] at h2
    have hm : node ∈ list := h2.1 ▸ gt_mem hi
    have hn : (mget node got).isSome = false := by rw [← h2.1, ← h.gt_isin hi]; exact h2.2
    refine ⟨?_, i, hi, h2.1, h1, by simpa using hn, hm⟩
    rw [hn, Bool.false_or, Bool.not_eq_false', decide_eq_true_eq, idxGo_mem]; exact hm
theorem RelG.put (h : RelG list got in_) {node : Int} (v : β) {i : Nat} (hi : i < list.length) (he : gt list i = node) (hn : mget node got = none) (hm : node ∈ list) : RelG list (mput node v got) (in_.set i true) := by
  refine ⟨h.nd, ?_, ?_⟩
  · apply List.ext_getElem
    · simp [h.isin_len]
    · intro k h1 h2
      have hk : k < list.length := by simpa using h2
      rw [List.getElem_map, mput_isSome]
      by_cases hki : i = k
      · subst hki
        have : list[i] = node := by rw [← gt_eq hi, he]
        simp [this]
      · rw [List.getElem_set_ne hki]
        have h3 := h.gt_isin hk
        rw [gt_eq (by rw [h.isin_len]; exact hk), gt_eq hk] at h3
        rw [h3]
        have : list[k] ≠ node := fun e => hki (nodup_gt h.nd hi hk (by rw [he, gt_eq hk, e]))
        simp [this]
  · rw [mput_new hn, List.length_append, List.length_singleton, h.g]
    have := filter_add (p := fun n => (mget n got).isSome) h.nd hm (by simp [hn])
    rw [← this]
    congr 1
    exact List.filter_congr fun n _ => by rw [← mput_new hn, mput_isSome]
end

structure RelB (x : AskB) (y : Ask16) : Prop where
  l : y.list = x.list
  n : y.need = x.need
  r : RelG x.list x.got y.in_

theorem RelG.new {β : Type} {list : List Int} (h : list.Nodup) : RelG list ([] : List (Int × β)) (List.replicate list.length false) :=
  ⟨h, by apply List.ext_getElem <;> simp [mget], by
    have : list.filter (fun n => (mget n ([] : List (Int × β))).isSome) = [] := List.filter_eq_nil_iff.2 fun n _ => by simp [mget]
    rw [this]; rfl⟩
theorem RelB.new {list : List Int} {need : Int} (h : qOk list need = true) : RelB ⟨list, need, []⟩ (r16New list need) := ⟨rfl, rfl, RelG.new (qOk_nodup h)⟩
theorem RelB.ack {x : AskB} {y : Ask16} (h : RelB x y) (node : Int) : (x.count node true).2 = decide (0 ≤ y.place node) := by
  unfold AskB.count Ask16.place
  rw [h.l]
  rcases h.r.place node with ⟨h1, h2⟩ | ⟨h1, i, hi, he, h2, _⟩
  · rw [h1, h2]; rfl
  · rw [h1, h2, cond_false]; simp
theorem RelB.step {x : AskB} {y : Ask16} (h : RelB x y) (node : Int) : RelB (x.count node true).1 (y.ack node) := by
  unfold AskB.count Ask16.ack Ask16.place
  rw [h.l]
  rcases h.r.place node with ⟨h1, h2⟩ | ⟨h1, i, hi, he, h2, h3, h4⟩
  · rw [h1, h2]; exact h
  · rw [h1, h2, cond_false]
    have : decide ((0 : Int) ≤ (i : Int)) = true := by simp
    rw [this, cond_true, Int.toNat_natCast]
    exact ⟨rfl, h.n, h.r.put true hi he h3 h4⟩
theorem RelB.waits {x : AskB} {y : Ask16} (h : RelB x y) : y.waits = x.waits := by
  unfold Ask16.waits AskB.waits
  rw [h.l]
  exact sel_congr fun i hi => ⟨by rw [h.r.gt_isin hi], rfl⟩
theorem RelB.done {x : AskB} {y : Ask16} (h : RelB x y) : decide (y.need ≤ (y.list.length : Int) - (y.waits.length : Int)) = decide (x.need ≤ (x.got.length : Int)) := by
  rw [h.waits, h.n, h.l]
  have h1 := h.r.g
  have h2 := filter_split x.list (fun n => (mget n x.got).isSome)
  have h3 : x.waits = x.list.filter (fun n => !(mget n x.got).isSome) := sel_filter x.list (fun n => !(mget n x.got).isSome)
  rw [h3]
  congr 1
  rw [eq_iff_iff]; omega
end Fw
end Go.Proofs.Ytlbdlkgboliikaa
