/- The order of a partition, in the program and in the document. No condition. -/
import Derived.Test.YtdhenoidmialaaaP1
namespace Go.Proofs.Ytdhenoidmialaaa
namespace Fw
set_option linter.unusedVariables false
set_option linter.unusedSimpArgs false
set_option linter.unusedSectionVars false

def inM (l : List Int) (x : Int) : Bool := l.any (fun y => y == x)
theorem inM_iff {l : List Int} {x : Int} : inM l x = true ↔ x ∈ l := by
  unfold inM
  rw [List.any_eq_true]
  exact ⟨fun ⟨y, h, e⟩ => by rw [← eq_of_beq e]; exact h, fun h => ⟨x, h, by simp⟩⟩
def full8 : List Int := [1, 2, 3, 4, 5, 6, 7, 8]
def allPts : List Dring_point := [⟨1617720362781921820, 5⟩, ⟨2859747917626252600, 5⟩, ⟨3282404872147981543, 2⟩, ⟨3547268679570306575, 5⟩, ⟨4468553946225400745, 6⟩, ⟨5211953188408635620, 2⟩, ⟨5340187946793234181, 4⟩, ⟨5377536733327551217, 1⟩, ⟨6003246894439879116, 8⟩, ⟨6889218775779017490, 2⟩, ⟨7074624659186901423, 7⟩, ⟨7117344460349104743, 7⟩, ⟨7805715650689265345, 4⟩, ⟨7827762685244865566, 1⟩, ⟨8095347166598043126, 1⟩, ⟨9296800280583132204, 4⟩, ⟨9396691207863826019, 7⟩, ⟨9565322831721067872, 3⟩, ⟨9959859230497258181, 8⟩, ⟨11067975117781355484, 5⟩, ⟨11704306432065842313, 4⟩, ⟨12732659629054255169, 2⟩, ⟨12902763760873127072, 7⟩, ⟨13173266386197547111, 6⟩, ⟨13566673135473558677, 8⟩, ⟨14312215450007413442, 8⟩, ⟨14395636887536989183, 3⟩, ⟨14707070820678004823, 6⟩, ⟨16717703434699766664, 3⟩, ⟨16824252002199258834, 1⟩, ⟨18170423567078829140, 6⟩, ⟨18251507869415235258, 3⟩]
def fullO : List (List Int) := [[2, 5, 6, 4, 1, 8, 7, 3], [6, 3, 5, 2, 4, 1, 8, 7], [4, 1, 7, 3, 8, 5, 2, 6], [6, 3, 5, 2, 4, 1, 8, 7], [5, 2, 6, 4, 1, 8, 7, 3], [2, 4, 1, 8, 7, 3, 5, 6], [5, 2, 6, 4, 1, 8, 7, 3], [3, 1, 6, 5, 2, 4, 8, 7]]
def fromT : List Int := [3077441777029266667, 17625595069734002348, 7329056643108230924, 17960091748159614976, 1777392669759766434, 4553224657100169843, 931109000384531942, 16660042640588062345]
def firstT : List (List Int) := [[2300094956298284550, 204963095118714876, 6487881054691801205, 2262746169763967514, 469826902541039908, 1391112169196134078, 3997182882157634756, 2925805117410612449], [6198685737303100485, 4103553876123530811, 625912799681232910, 6161336950768783449, 2438869366757471088, 544828497344826792, 7895773663162450691, 6824395898415428384], [498706042136634642, 5403602985946024245, 2236266188612836948, 476659007581034421, 3738918474673124560, 5844209743089316187, 2067634564755595095, 2630802587389027257], [5864189058877487857, 3769057197697918183, 291416121255620282, 5826840272343170821, 2104372688331858460, 210331818919214164, 7561276984736838063, 6489899219989815756], [3600144063567784783, 1505012202388215109, 7787930161961301438, 3562795277033467747, 1082355247866486166, 2691161276465634311, 5297231989427134989, 4225854224680112682], [824312076227381374, 658728531308465777, 5012098174620898029, 786963289693064338, 6514750460681185641, 8620041729097377268, 2521400002086731580, 1450022237339709273], [4446427732943019275, 2351295871763449601, 8634213831336535930, 4409078946408702239, 686611362397389878, 3537444945840868803, 6143515658802369481, 5072137894055347174], [164209361611196489, 5069106305269470814, 57660794111704319, 7126889379914723452, 3404421795903411091, 1510380926490766795, 8861326092308390694, 7789948327561368387]]

/-! ### the points -/
def hashP (m : Int) (i : Nat) : Int := (m_num_Hash [(b8 (wu8 m)), (b8 (wu8 ((i : Nat) : Int)))]).getD 0
def ptsAt (m : Int) : List Dring_point := (List.range 4).map (fun i => ⟨hashP m i, m⟩)
def ptsOf (ms : List Int) : List Dring_point := ms.flatMap ptsAt
theorem hash_ok : ∀ m ∈ full8, ∀ i, i < 4 → m_num_Hash [(b8 (wu8 m)), (b8 (wu8 ((i : Nat) : Int)))] = some (hashP m i) ∧ u64b (hashP m i) = true := by decide +kernel
theorem full_mem {x : Int} : x ∈ full8 ↔ 1 ≤ x ∧ x ≤ 8 := by
  simp only [full8, List.mem_cons, List.not_mem_nil, or_false]; omega
theorem e_pts {ms : List Int} (h : ∀ x ∈ ms, 1 ≤ x ∧ x ≤ 8) (hl : ms.length ≤ 8) (k : List Dring_point → Option (List Int)) : forI (m_ring_order_b4 ms) k 0 ms [] = k (ptsOf ms) := by
  refine forI_inv (fun i s => k (ptsOf ms)) (fun i s => s = ptsOf (ms.take i)) (fun s hs => by rw [hs, List.take_length]) (fun f i s hi hI hf => ?_) rfl
  subst hI
  unfold m_ring_order_b4
  have hlen : ∀ l : List Int, (ptsOf l).length = 4 * l.length := by
    intro l
    induction l with
    | nil => rfl
    | cons x l ih =>
      have : ptsOf (x :: l) = ptsAt x ++ ptsOf l := rfl
      rw [this, List.length_append, ih, List.length_cons]
      have : (ptsAt x).length = 4 := rfl
      omega
  have hm := full_mem.2 (h _ (gt_mem hi))
  refine forU_inv (fun j s => k (ptsOf ms)) (fun j s => s = ptsOf (ms.take i) ++ (List.range j).map (fun q => ⟨hashP (gt ms i) q, gt ms i⟩)) (fun s hs => ?_) (fun g j s hj hJ hg => ?_) (by simp)
  · refine hf _ ?_
    rw [hs, take_gt hi]
    simp [ptsOf, ptsAt]
  · subst hJ
    unfold m_ring_order_b5
    obtain ⟨h1, h2⟩ := hash_ok _ hm j hj
    rw [h1, Option.bind_some, chk_t h2, chk_t (by rw [decide_eq_true_eq, List.length_append, hlen, List.length_take, List.length_map, List.length_range, lim_eq]; omega)]
    exact hg _ (by rw [List.range_succ]; simp)

/-! ### the sorting -/
section
variable {α : Type} [DecidableEq α] {cmp : α → α → Option Int}
theorem insS_sorted {M : α → Prop} (ht : Tri cmp M) {x : α} (hx : M x) : ∀ {l : List α}, (∀ y ∈ l, M y) → l.Pairwise (fun x y => ltm cmp y x = false) → (insS (ltm cmp) x l).Pairwise (fun x y => ltm cmp y x = false)
  | [], _, _ => by simp [insS]
  | y :: l, hm, hp => by
    obtain ⟨h1, h2⟩ := List.pairwise_cons.1 hp
    have hy := hm y List.mem_cons_self
    rw [insS]
    cases hl : ltm cmp y x with
    | true =>
      refine List.pairwise_cons.2 ⟨fun z hz => ?_, insS_sorted ht hx (fun z hz => hm z (List.mem_cons_of_mem _ hz)) h2⟩
      rcases List.mem_cons.1 ((insS_perm _ x l).subset hz) with e | e
      · subst e
        rcases ht.tri y z hy hx with t | t | t
        · rw [t, ht.irr z hx] at hl; cases hl
        · exact t.2
        · rw [t.2] at hl; cases hl
      · exact h1 z e
    | false =>
      refine List.pairwise_cons.2 ⟨fun z hz => ?_, hp⟩
      rcases List.mem_cons.1 hz with e | e
      · rw [e]; exact hl
      · exact ht.ntrans (hm z (List.mem_cons_of_mem _ e)) hy hx (h1 z e) hl
theorem isort_sorted {M : α → Prop} (ht : Tri cmp M) : ∀ {l : List α}, (∀ y ∈ l, M y) → (isort (ltm cmp) l).Pairwise (fun x y => ltm cmp y x = false)
  | [], _ => List.Pairwise.nil
  | x :: l, hm => by
    rw [isort]
    exact insS_sorted ht (hm x List.mem_cons_self) (fun y hy => hm y (List.mem_cons_of_mem _ ((isort_perm _ l).subset hy))) (isort_sorted ht fun y hy => hm y (List.mem_cons_of_mem _ hy))
theorem okS_sorted {ys : List α} (h : okS cmp ys = true) : ys.Pairwise (fun x y => ltm cmp y x = false) := by
  obtain ⟨h2, h3⟩ := okS_pw h
  refine h3.imp_of_mem fun {a b} ha hb hab => ?_
  rcases hab with e | e
  · rw [e]; exact (h2 b hb).2
  · exact e.2.2.2
theorem m_sort_of {xs ys : List α} (h0 : xs ≠ []) (hp : ys.Perm xs) (h : okS cmp ys = true) : m_sort cmp xs = some ys := by
  have ht := okS_tri h
  have e : isort (ltm cmp) xs = ys := sort_unique ht (fun x hx => hp.symm.subset ((isort_perm _ xs).subset hx)) ((isort_perm _ xs).trans hp.symm) (isort_sorted ht fun y hy => hp.symm.subset hy) (okS_sorted h)
  unfold m_sort
  rw [e, chk_t h, chk_t (by cases xs with | nil => exact absurd rfl h0 | cons _ _ => rfl)]
theorem okS_filter (p : α → Bool) : ∀ {l : List α}, okS cmp l = true → okS cmp (l.filter p) = true
  | [], _ => rfl
  | x :: l, h => by
    rw [okS, Bool.and_eq_true, Bool.and_eq_true] at h
    have ih := okS_filter p h.2
    rw [List.filter_cons]
    split
    · rw [okS, ih, h.1.1, Bool.and_true, Bool.true_and, List.all_eq_true]
      exact fun y hy => List.all_eq_true.1 h.1.2 y (List.mem_filter.1 hy).1
    · exact ih
end
def cmpP (a b : Dring_point) : Option Int := m_ring_order_1 a b
theorem okS_all : okS cmpP allPts = true := by decide +kernel
theorem all_perm : allPts.isPerm (ptsOf full8) = true := by decide +kernel
theorem pts_filter (p : Int → Bool) : ∀ l : List Int, (ptsOf l).filter (fun q => p q.node) = ptsOf (l.filter p)
  | [] => rfl
  | x :: l => by
    have ih := pts_filter p l
    simp only [ptsOf, List.flatMap_cons] at *
    rw [List.filter_append, ih, List.filter_cons]
    have : (ptsAt x).filter (fun q => p q.node) = if p x = true then ptsAt x else [] := by
      split
      · rename_i h
        exact List.filter_eq_self.2 fun q hq => by
          obtain ⟨i, _, rfl⟩ := List.mem_map.1 hq; exact h
      · rename_i h
        exact List.filter_eq_nil_iff.2 fun q hq => by
          obtain ⟨i, _, rfl⟩ := List.mem_map.1 hq; exact h
    rw [this]
    split <;> simp
theorem ups_filter : ∀ ms ∈ ups 8, full8.filter (inM ms) = ms := by decide +kernel
def sorted (ms : List Int) : List Dring_point := allPts.filter (fun q => inM ms q.node)
theorem e_sort {ms : List Int} (h : Rgt ms) : m_sort (fun a b => m_ring_order_1 a b) (ptsOf ms) = some (sorted ms) := by
  refine m_sort_of (cmp := cmpP) ?_ ?_ (okS_filter _ okS_all)
  · intro e
    have := h.1
    cases ms with
    | nil => simp at this
    | cons x l => simp [ptsOf, ptsAt] at e
  · have h1 : (sorted ms).Perm ((ptsOf full8).filter (fun q => inM ms q.node)) := (List.isPerm_iff.1 all_perm).filter _
    rw [pts_filter (inM ms), ups_filter ms (rgt_ups h)] at h1
    exact h1

/-! ### the walk around -/
def tailO (z43 : List Dring_point) (part : Int) : Option (List Int) :=
  (Option.bind (m_num_Hash [(b8 255), (b8 (wu8 part))]) fun z54 => (chk (u64b z54) (Option.bind (m_slices_BinarySearchFunc_ring_point_ring_point_uint64 z43 z54) fun z57 => (forI (m_ring_order_b9 z43 z57) (fun (out_61, x66) =>
 (some out_61)) 0 z43 ([], (List.replicate 9 false))))))
def ordS (ms : List Int) (part : Int) : List Int := bif (allFrom (rgtAt ms) 0 ms.length && decide (0 < ((ms.length : Nat) : Int))) && (decide (0 ≤ part) && decide (part < 8)) then (gt fullO part.toNat).filter (inM ms) else []
/-! ### the document's -/
section
variable (fst : Int → Option Int) (members : List Int) (z10 : Int)
def b18G (x21 : List Bool) (f32 : Int → Option (List Int)) (i33 : Nat) (ei33 : Int) : Int → Option (List Int) := fun best_30 =>
 (chk (inb ei33 9) (chk (imp ((!(gt x21 (ei33.toNat))) && (!(best_30 == 0))) (u64b z10)) (Option.bind (gcall ((!(gt x21 (ei33.toNat))) && (!(best_30 == 0))) (fst ei33)) fun z49 => (Option.bind (gcall ((!(gt x21 (ei33.toNat))) && (!(best_30 == 0))) (fst best_30)) fun z54 => (bif ((!(gt x21 (ei33.toNat))) && ((best_30 == 0) || (decide (z49 < z54)))) then
 (m_firthref12_Order_j19 f32 ei33)
 else
 (m_firthref12_Order_j19 f32 best_30))))))
def b13G (f25 : (List Int) × (List Bool) → Option (List Int)) : (List Int) × (List Bool) → Option (List Int) := fun (out_16, x21) =>
 (bif (decide (((out_16.length : Nat) : Int) < ((members.length : Nat) : Int))) then
 (forI (b18G fst z10 x21) (fun best_30 =>
 (chk (inb best_30 9) (chk (decide (out_16.length + 1 ≤ lim)) (f25 ((out_16 ++ [best_30]), (List.set x21 best_30.toNat true)))))) 0 members 0)
 else
 (some out_16))
def orderG : Option (List Int) := loopN (b13G fst members z10) FU ([], (List.replicate 9 false))
end
theorem orderG_eq (members : List Int) (z10 : Int) : loopN (m_firthref12_Order_b13 members z10) FU ([], (List.replicate 9 false)) = orderG (fun m => m_firthref12_first m z10) members z10 := rfl
def fstT (p : Nat) (m : Int) : Option Int := bif decide (1 ≤ m) && decide (m ≤ 8) then some (gt (gt firstT p) (m.toNat - 1)) else m_firthref12_first m (gt fromT p)
theorem first_tab : ∀ p, p < 8 → ∀ m ∈ full8, m_firthref12_first m (gt fromT p) = some (gt (gt firstT p) (m.toNat - 1)) := by decide +kernel
theorem fstT_eq {p : Nat} (hp : p < 8) : (fun m => m_firthref12_first m (gt fromT p)) = fstT p := by
  funext m
  unfold fstT
  cases h : decide (1 ≤ m) && decide (m ≤ 8)
  · rfl
  · rw [Bool.and_eq_true, decide_eq_true_eq, decide_eq_true_eq] at h
    exact first_tab p hp m (full_mem.2 h)
theorem from_tab : ∀ p, p < 8 → m_firthref01_Hash [(b8 255), (b8 (wu8 ((p : Nat) : Int)))] = some (gt fromT p) := by decide +kernel
end Fw
end Go.Proofs.Ytdhenoidmialaaa
