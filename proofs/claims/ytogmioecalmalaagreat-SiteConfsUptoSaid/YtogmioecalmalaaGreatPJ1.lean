/- The plain side: what the models come to. No condition. -/
import Derived.Test.YtogmioecalmalaaGreatM
import Derived.Test.YtogmioecalmalaaGreatQ1
namespace Go.Proofs.YtogmioecalmalaaGreat
namespace Fw
set_option linter.unusedVariables false
set_option linter.unusedSimpArgs false
set_option linter.unusedSectionVars false

/-- rising within 1..8 -/
def Rgt (l : List Int) : Prop := 0 < l.length ∧ (∀ x ∈ l, 1 ≤ x ∧ x ≤ 8) ∧ l.Pairwise (· < ·)
def rgtAt (l : List Int) (i : Nat) : Bool := !((decide (gt l i < 1) || decide (8 < gt l i)) || (decide (0 < (i : Int)) && decide (gt l i ≤ gt l (i - 1))))
theorem e_Right {l : List Int} (hl : l.length ≤ lim) : m_ring_Right l = some (allFrom (rgtAt l) 0 l.length && decide (0 < ((l.length : Nat) : Int))) := by
  unfold m_ring_Right
  rw [forI_all (p := rgtAt l) (r := some false) (fun f i hi => ?_)]
  · cases allFrom (rgtAt l) 0 l.length <;> rfl
  · unfold m_ring_Right_b1 rgtAt
    rw [lim_eq] at hl
    rw [w64_nat (by omega)]
    cases h1 : (decide (gt l i < 1) || decide (8 < gt l i))
    · by_cases h0 : 0 < (i : Int)
      · rw [show decide (0 < ((i : Nat) : Int)) = true by simpa using h0]
        have hi1 : (((i : Nat) : Int) - 1).toNat = i - 1 := by omega
        rw [chk_t (show imp _ (inb (((i : Nat) : Int) - 1) l.length) = true by
          show inb _ _ = true
          unfold inb
          rw [Bool.and_eq_true, decide_eq_true_eq, decide_eq_true_eq]; omega), hi1]
        cases decide (gt l i ≤ gt l (i - 1)) <;> rfl
      · rw [show decide (0 < ((i : Nat) : Int)) = false by simpa using h0]
        rfl
    · rfl
theorem rgt_iff {l : List Int} : (allFrom (rgtAt l) 0 l.length && decide (0 < ((l.length : Nat) : Int))) = true ↔ Rgt l := by
  rw [Bool.and_eq_true, all0_iff, decide_eq_true_eq]
  unfold Rgt
  constructor
  · rintro ⟨h, h0⟩
    have hb : ∀ i, i < l.length → (1 ≤ gt l i ∧ gt l i ≤ 8) ∧ (0 < i → gt l (i - 1) < gt l i) := by
      intro i hi
      have := h i hi
      unfold rgtAt at this
      simp only [Bool.not_eq_true', Bool.or_eq_false_iff, decide_eq_false_iff_not, Bool.and_eq_false_iff] at this
      omega
    refine ⟨by omega, fun x hx => ?_, ?_⟩
    · obtain ⟨i, hi, rfl⟩ := mem_gt hx
      exact (hb i hi).1
    · rw [List.pairwise_iff_getElem]
      have key : ∀ m i, i + m + 1 < l.length → gt l i < gt l (i + m + 1) := by
        intro m
        induction m with
        | zero => intro i hi; have := (hb (i + 1) hi).2 (by omega); simpa using this
        | succ m ih =>
          intro i hi
          have h1 := ih i (by omega)
          have h2 := (hb (i + m + 1 + 1) hi).2 (by omega)
          rw [Nat.add_sub_cancel] at h2
          exact Int.lt_trans h1 h2
      intro i j hi hj hij
      have := key (j - i - 1) i (by omega)
      rwa [show i + (j - i - 1) + 1 = j by omega, gt_eq hi, gt_eq hj] at this
  · rintro ⟨h0, h1, h2⟩
    refine ⟨fun i hi => ?_, by omega⟩
    unfold rgtAt
    simp only [Bool.not_eq_true', Bool.or_eq_false_iff, decide_eq_false_iff_not, Bool.and_eq_false_iff]
    have h3 := h1 _ (gt_mem hi)
    refine ⟨by omega, ?_⟩
    by_cases hz : i = 0
    · left; omega
    · right
      rw [List.pairwise_iff_getElem] at h2
      have := h2 (i - 1) i (by omega) hi (by omega)
      rw [gt_eq hi, gt_eq (by omega)]; omega
/-- all rising lists within the last k numbers up to 8 -/
def ups : Nat → List (List Int)
  | 0 => [[]]
  | k + 1 => ups k ++ (ups k).map ((8 - (k : Int)) :: ·)
theorem ups_mem : ∀ (k : Nat) (l : List Int), (∀ x ∈ l, 8 - (k : Int) < x ∧ x ≤ 8) → l.Pairwise (· < ·) → l ∈ ups k
  | 0, l, h, _ => by
    cases l with
    | nil => simp [ups]
    | cons x l => have := h x List.mem_cons_self; omega
  | k + 1, l, h, hp => by
    rw [ups, List.mem_append, List.mem_map]
    cases l with
    | nil => exact .inl (ups_mem k [] (by simp) hp)
    | cons x l =>
      obtain ⟨h1, h2⟩ := List.pairwise_cons.1 hp
      have hx := h x List.mem_cons_self
      by_cases e : x = 8 - (k : Int)
      · refine .inr ⟨l, ups_mem k l (fun y hy => ?_) h2, by rw [e]⟩
        have := h1 y hy
        have := h y (List.mem_cons_of_mem _ hy)
        omega
      · refine .inl (ups_mem k (x :: l) (fun y hy => ?_) hp)
        have hy2 := h y hy
        rcases List.mem_cons.1 hy with e2 | e2
        · subst e2; omega
        · have := h1 y e2; omega
theorem rgt_ups {l : List Int} (h : Rgt l) : l ∈ ups 8 := ups_mem 8 l (fun x hx => by have := h.2.1 x hx; omega) h.2.2
theorem rgt_len {l : List Int} (h : Rgt l) : l.length ≤ 8 := by
  have : ∀ x ∈ ups 8, x.length ≤ 8 := by decide +kernel
  exact this l (rgt_ups h)
theorem e_rRight {l : List Int} (hl : l.length ≤ lim) : m_firthref12_Right l = some (allFrom (rgtAt l) 0 l.length && decide (0 < ((l.length : Nat) : Int))) := by
  have body : forI (m_firthref12_Right_b1 l) (fun _ => (some true)) 0 l () = some (allFrom (rgtAt l) 0 l.length) := by
    rw [forI_all (p := rgtAt l) (r := some false) (fun f i hi => ?_)]
    · cases allFrom (rgtAt l) 0 l.length <;> rfl
    · unfold m_firthref12_Right_b1 rgtAt
      rw [lim_eq] at hl
      rw [w64_nat (by omega)]
      cases h1 : (decide (gt l i < 1) || decide (8 < gt l i))
      · by_cases h0 : 0 < (i : Int)
        · rw [show decide (0 < ((i : Nat) : Int)) = true by simpa using h0]
          have hi1 : (((i : Nat) : Int) - 1).toNat = i - 1 := by omega
          rw [chk_t (show imp _ (inb (((i : Nat) : Int) - 1) l.length) = true by
            show inb _ _ = true
            unfold inb
            rw [Bool.and_eq_true, decide_eq_true_eq, decide_eq_true_eq]; omega), hi1]
          cases decide (gt l i ≤ gt l (i - 1)) <;> rfl
        · rw [show decide (0 < ((i : Nat) : Int)) = false by simpa using h0]
          rfl
      · rfl
  unfold m_firthref12_Right
  rw [body]
  cases hr : (allFrom (rgtAt l) 0 l.length && decide (0 < ((l.length : Nat) : Int)))
  · cases hb : (decide (((l.length : Nat) : Int) < 1) || decide (8 < ((l.length : Nat) : Int)))
    · rw [cond_false]
      have h0 : decide (0 < ((l.length : Nat) : Int)) = true := by
        have := or_l hb; rw [decide_eq_false_iff_not] at this; rw [decide_eq_true_eq]; omega
      rw [h0, Bool.and_true] at hr
      rw [hr]
    · rfl
  · have h1 := rgt_len (rgt_iff.1 hr)
    have h2 := (rgt_iff.1 hr).1
    have hb : (decide (((l.length : Nat) : Int) < 1) || decide (8 < ((l.length : Nat) : Int))) = false := by
      rw [Bool.or_eq_false_iff, decide_eq_false_iff_not, decide_eq_false_iff_not]; omega
    rw [hb, cond_false, and_l hr]
end Fw
end Go.Proofs.YtogmioecalmalaaGreat

namespace Go.Proofs.YtogmioecalmalaaGreat
namespace Fw
set_option linter.unusedVariables false
set_option linter.unusedSimpArgs false
set_option linter.unusedSectionVars false
theorem bif_t {α : Type} {b : Bool} {x y : α} (h : b = true) : (bif b then x else y) = x := by subst h; rfl
theorem bif_f {α : Type} {b : Bool} {x y : α} (h : b = false) : (bif b then x else y) = y := by subst h; rfl
theorem ring_same {l : List Int} (hl : l.length ≤ lim) : ∃ b, m_ring_Right l = some b ∧ m_firthref12_Right l = some b ∧ (b = true ↔ Rgt l) := ⟨_, e_Right hl, e_rRight hl, rgt_iff⟩
/-- is the i-th link right? -/
def lkB (c : Dapi_Conf) (i : Nat) : Bool := !(((decide ((gt c.links i).a0 < 1)) || (decide (c.sites < (gt c.links i).a1))) || (decide ((gt c.links i).a1 ≤ (gt c.links i).a0))) && allFrom (fun k => !(gt c.links k == gt c.links i)) 0 i
theorem ix_pair {l : List Dapi_arr2} {a b : Int} : ∃ z : Int, m_slices_Index_2_int_2_int l a b = some z ∧ (decide (0 ≤ z)) = !(allFrom (fun k => !(gt l k == (⟨a, b⟩ : Dapi_arr2))) 0 l.length) := by
  unfold m_slices_Index_2_int_2_int
  have key : ∀ (m i : Nat), l.length - i = m → i ≤ l.length → ∃ z : Int, forI (m_slices_Index_2_int_2_int_b1 a b) (fun _ => some (-1)) i (l.drop i) () = some z ∧ (decide (0 ≤ z)) = !(allFrom (fun k => !(gt l k == (⟨a, b⟩ : Dapi_arr2))) i l.length) := by
    intro m
    induction m with
    | zero =>
      intro i hm hi
      obtain rfl : i = l.length := by omega
      rw [List.drop_of_length_le (Nat.le_refl _), allFrom_end (Nat.le_refl _)]
      exact ⟨-1, rfl, by decide⟩
    | succ m ih =>
      intro i hm hi
      rw [drop_gt (by omega), allFrom_step (by omega)]
      show ∃ z : Int, m_slices_Index_2_int_2_int_b1 a b (forI (m_slices_Index_2_int_2_int_b1 a b) (fun _ => some (-1)) (i + 1) (l.drop (i + 1))) i (gt l i) () = some z ∧ _
      obtain ⟨z, h1, h2⟩ := ih (i + 1) (by omega) (by omega)
      unfold m_slices_Index_2_int_2_int_b1
      have he : ((⟨a, b⟩ : Dapi_arr2) == gt l i) = (gt l i == (⟨a, b⟩ : Dapi_arr2)) := by rw [Bool.eq_iff_iff, beq_iff_eq, beq_iff_eq]; exact eq_comm
      rw [he]
      cases hb : (gt l i == (⟨a, b⟩ : Dapi_arr2)) with
      | true => exact ⟨_, rfl, by simp⟩
      | false => exact ⟨z, h1, by simpa using h2⟩
  obtain ⟨z, h1, h2⟩ := key l.length 0 rfl (Nat.zero_le _)
  exact ⟨z, h1, h2⟩
theorem gt_take {α : Type} [Inhabited α] {l : List α} {i k : Nat} (hk : k < i) (hi : i ≤ l.length) : gt (l.take i) k = gt l k := by
  rw [gt_eq (by rw [List.length_take]; omega), gt_eq (by omega), List.getElem_take]
theorem has_pair {l : List Dapi_arr2} {i : Nat} (hi : i < l.length) : m_slices_Contains_2_int_2_int (List.take i l) (gt l i).a0 (gt l i).a1 = some (!(allFrom (fun k => !(gt l k == gt l i)) 0 i)) := by
  unfold m_slices_Contains_2_int_2_int
  obtain ⟨z, h1, h2⟩ := ix_pair (l := List.take i l) (a := (gt l i).a0) (b := (gt l i).a1)
  rw [h1, Option.bind_some, h2, List.length_take, Nat.min_eq_left (by omega)]
  congr 2
  exact allFrom_congr fun k hk => by rw [gt_take hk (by omega)]
/-- what is asked behind the links -/
def endB (c : Dapi_Conf) (b : Bool) : Bool :=
  ((((((decide (1 ≤ c.sites)) && (decide (c.sites ≤ 16))) && (decide (1 ≤ c.nodes))) && (decide (c.nodes ≤ 8))) && b) && (decide ((gt c.members (c.members.length - 1)) ≤ c.nodes))) &&
  ((((((decide (1 ≤ c.n)) && (decide (c.n ≤ ((c.members.length : Nat) : Int)))) && (decide (1 ≤ c.r))) && (decide (c.r ≤ c.n))) && (decide (1 ≤ c.w_))) && (decide (c.w_ ≤ c.n)) && (decide (c.n < (w64 (c.r + c.w_))))) &&
  ((((((((decide (0 ≤ c.group)) && (decide (1 ≤ ((c.secret.size : Nat) : Int)))) && (decide (((c.secret.size : Nat) : Int) ≤ 64))) && (decide (0 ≤ c.room))) && (decide (1 ≤ c.cap))) && (decide (c.cap ≤ 65536))) && (decide (0 ≤ c.pend))) && (decide (0 ≤ c.wait))) &&
  ((((decide (1 ≤ c.timeout)) && (decide (c.timeout ≤ 1048576))) && (decide (1 ≤ c.hintAfter))) && (decide (0 ≤ c.base)) && (decide (c.base ≤ 4611686018427387904)))
def rB (c : Dapi_Conf) (b : Bool) : Bool := allFrom (lkB c) 0 c.links.length && endB c b
theorem empty_eq (s : ByteArray) : (s == ByteArray.empty) = decide (s.size < 1) := by
  rw [Bool.eq_iff_iff, decide_eq_true_eq]
  constructor
  · intro h
    have : s = ByteArray.empty := by
      have h2 : (s.data == ByteArray.empty.data) = true := h
      exact ByteArray.ext (by simpa using h2)
    rw [this]; decide
  · intro h
    have h1 : s.data = #[] := by
      have : s.data.size = 0 := by show s.size = 0; omega
      exact Array.eq_empty_of_size_eq_zero this
    show (s.data == ByteArray.empty.data) = true
    rw [h1]; rfl
theorem last_ok {l : List Int} (hl : l.length ≤ lim) {g b : Bool} (h : b = true → 0 < l.length) : imp (g && b) (inb (w64 (((l.length : Nat) : Int) - 1)) l.length) = true := by
  rw [lim_eq] at hl
  rw [w64_nat (by omega)]
  cases b with
  | false => cases g <;> rfl
  | true =>
    have := h rfl
    cases g with
    | false => rfl
    | true =>
      show inb _ _ = true
      unfold inb
      rw [Bool.and_eq_true, decide_eq_true_eq, decide_eq_true_eq]; omega
theorem last_ix {l : List Int} (hl : l.length ≤ lim) (h : 0 < l.length) : (w64 (((l.length : Nat) : Int) - 1)).toNat = l.length - 1 := by
  rw [lim_eq] at hl
  rw [w64_nat (by omega)]; omega
theorem not_dec {p q : Prop} [Decidable p] [Decidable q] (h : p ↔ ¬ q) : decide p = !(decide q) := by
  by_cases hq : q <;> simp [h, hq]
theorem e_SRight {c : Dapi_Conf} (hl : c.links.length ≤ lim) (hm : c.members.length ≤ lim) {b : Bool} (h1 : m_ring_Right c.members = some b) (hb : b = true ↔ Rgt c.members) : m_site_Right c = some (rB c b) := by
  unfold m_site_Right
  rw [forI_all (p := lkB c) (r := some false) (fun f i hi => ?_)]
  · unfold rB
    cases ha : allFrom (lkB c) 0 c.links.length with
    | false => rfl
    | true =>
      rw [bif_t rfl, h1, gcall_s, Option.bind_some, Bool.true_and]
      have hpos : b = true → 0 < c.members.length := fun h => (hb.1 h).1
      cases hg : ((((decide (1 ≤ c.sites)) && (decide (c.sites ≤ 16))) && (decide (1 ≤ c.nodes))) && (decide (c.nodes ≤ 8))) with
      | false =>
        unfold endB
        rw [hg]; rfl
      | true =>
        rw [bif_t rfl, chk_t (last_ok hm hpos)]
        unfold endB
        rw [hg]
        cases b with
        | false => rfl
        | true =>
          rw [last_ix hm (hpos rfl)]
          congr 1
          rw [Bool.eq_iff_iff]
          simp only [Bool.and_eq_true, Bool.true_and, and_assoc]
  · unfold m_site_Right_b1 lkB
    rw [has_pair hi, gcall_s, Option.bind_some]
    have e0 : decide ((gt c.links i).a1 ≤ (gt c.links i).a0) = decide ((gt c.links i).a1 ≤ (gt c.links i).a0) := rfl
    generalize decide ((gt c.links i).a0 < 1) = x
    generalize decide ((gt c.links i).a1 ≤ (gt c.links i).a0) = y
    generalize decide (c.sites < (gt c.links i).a1) = z
    generalize allFrom (fun k => !(gt c.links k == gt c.links i)) 0 i = u
    cases x <;> cases y <;> cases z <;> cases u <;> rfl
theorem e_rSRight {c : Dapi_Conf} (hl : c.links.length ≤ lim) (hm : c.members.length ≤ lim) {b : Bool} (h1 : m_firthref12_Right c.members = some b) (hb : b = true ↔ Rgt c.members) : m_firthref20_Right c = some (rB c b) := by
  unfold m_firthref20_Right
  rw [forI_all (p := lkB c) (r := some false) (fun f i hi => ?_)]
  · unfold rB
    cases ha : allFrom (lkB c) 0 c.links.length with
    | false => rfl
    | true =>
      rw [bif_t rfl, h1, gcall_s, Option.bind_some, Bool.true_and, empty_eq]
      have hpos : b = true → 0 < c.members.length := fun h => (hb.1 h).1
      have n1 : (decide (c.sites < 1)) = !(decide (1 ≤ c.sites)) := not_dec (by omega)
      have n2 : (decide (16 < c.sites)) = !(decide (c.sites ≤ 16)) := not_dec (by omega)
      have n3 : (decide (c.nodes < 1)) = !(decide (1 ≤ c.nodes)) := not_dec (by omega)
      have n4 : (decide (8 < c.nodes)) = !(decide (c.nodes ≤ 8)) := not_dec (by omega)
      have n5 := fun x : Int => (not_dec (by omega) : (decide (c.nodes < x)) = !(decide (x ≤ c.nodes)))
      have m1 : (decide (c.n < 1)) = !(decide (1 ≤ c.n)) := not_dec (by omega)
      have m2 : (decide (((c.members.length : Nat) : Int) < c.n)) = !(decide (c.n ≤ ((c.members.length : Nat) : Int))) := not_dec (by omega)
      have m3 : (decide (c.r < 1)) = !(decide (1 ≤ c.r)) := not_dec (by omega)
      have m4 : (decide (c.n < c.r)) = !(decide (c.r ≤ c.n)) := not_dec (by omega)
      have m5 : (decide (c.w_ < 1)) = !(decide (1 ≤ c.w_)) := not_dec (by omega)
      have m6 : (decide (c.n < c.w_)) = !(decide (c.w_ ≤ c.n)) := not_dec (by omega)
      have m7 := fun x : Int => (not_dec (by omega) : (decide (x ≤ c.n)) = !(decide (c.n < x)))
      have p1 : (decide (c.group < 0)) = !(decide (0 ≤ c.group)) := not_dec (by omega)
      have p2 : (decide (c.secret.size < 1)) = !(decide (1 ≤ ((c.secret.size : Nat) : Int))) := not_dec (by omega)
      have p3 : (decide (64 < ((c.secret.size : Nat) : Int))) = !(decide (((c.secret.size : Nat) : Int) ≤ 64)) := not_dec (by omega)
      have p4 : (decide (c.room < 0)) = !(decide (0 ≤ c.room)) := not_dec (by omega)
      have p5 : (decide (c.cap < 1)) = !(decide (1 ≤ c.cap)) := not_dec (by omega)
      have p6 : (decide (65536 < c.cap)) = !(decide (c.cap ≤ 65536)) := not_dec (by omega)
      have p7 : (decide (c.pend < 0)) = !(decide (0 ≤ c.pend)) := not_dec (by omega)
      have p8 : (decide (c.wait < 0)) = !(decide (0 ≤ c.wait)) := not_dec (by omega)
      have g0 : (!((((decide (c.sites < 1)) || (decide (16 < c.sites))) || (decide (c.nodes < 1))) || (decide (8 < c.nodes)))) = ((((decide (1 ≤ c.sites)) && (decide (c.sites ≤ 16))) && (decide (1 ≤ c.nodes))) && (decide (c.nodes ≤ 8))) := by
        rw [n1, n2, n3, n4]
        cases decide (1 ≤ c.sites) <;> cases decide (c.sites ≤ 16) <;> cases decide (1 ≤ c.nodes) <;> cases decide (c.nodes ≤ 8) <;> rfl
      have g1 : ∀ q : Bool, (!(((((decide (c.sites < 1)) || (decide (16 < c.sites))) || (decide (c.nodes < 1))) || (decide (8 < c.nodes))) || (!q))) = (((((decide (1 ≤ c.sites)) && (decide (c.sites ≤ 16))) && (decide (1 ≤ c.nodes))) && (decide (c.nodes ≤ 8))) && q) := by
        intro q
        rw [← g0]
        generalize ((((decide (c.sites < 1)) || (decide (16 < c.sites))) || (decide (c.nodes < 1))) || (decide (8 < c.nodes))) = x
        cases x <;> cases q <;> rfl
      rw [g0]
      have g2 : ∀ q x y : Bool, ((((((decide (c.sites < 1)) || (decide (16 < c.sites))) || (decide (c.nodes < 1))) || (decide (8 < c.nodes))) || (!q)) || (!x)) = !((((((decide (1 ≤ c.sites)) && (decide (c.sites ≤ 16))) && (decide (1 ≤ c.nodes))) && (decide (c.nodes ≤ 8))) && q) && x) := by
        intro q x y
        rw [← g1 q]
        generalize (((((decide (c.sites < 1)) || (decide (16 < c.sites))) || (decide (c.nodes < 1))) || (decide (8 < c.nodes))) || (!q)) = z
        cases z <;> cases x <;> rfl
      rw [g1, n5 (gt c.members ((w64 (((c.members.length : Nat) : Int) - 1)).toNat)), g2 _ _ true]
      unfold endB
      cases hg : ((((decide (1 ≤ c.sites)) && (decide (c.sites ≤ 16))) && (decide (1 ≤ c.nodes))) && (decide (c.nodes ≤ 8))) with
      | false => rfl
      | true =>
        rw [bif_t rfl, chk_t (last_ok hm hpos)]
        cases b with
        | false => rfl
        | true =>
          rw [last_ix hm (hpos rfl), m1, m2, m3, m4, m5, m6, m7 (w64 (c.r + c.w_)), p1, p2, p3, p4, p5, p6, p7, p8]
          generalize decide (gt c.members (c.members.length - 1) ≤ c.nodes) = q0
          generalize decide (1 ≤ c.n) = q1
          generalize decide (c.n ≤ ((c.members.length : Nat) : Int)) = q2
          generalize decide (1 ≤ c.r) = q3
          generalize decide (c.r ≤ c.n) = q4
          generalize decide (1 ≤ c.w_) = q5
          generalize decide (c.w_ ≤ c.n) = q6
          generalize decide (c.n < w64 (c.r + c.w_)) = q7
          generalize decide (0 ≤ c.group) = r1
          generalize decide (1 ≤ ((c.secret.size : Nat) : Int)) = r2
          generalize decide (((c.secret.size : Nat) : Int) ≤ 64) = r3
          generalize decide (0 ≤ c.room) = r4
          generalize decide (1 ≤ c.cap) = r5
          generalize decide (c.cap ≤ 65536) = r6
          generalize decide (0 ≤ c.pend) = r7
          generalize decide (0 ≤ c.wait) = r8
          have d1 : ((((((!q1) || (!q2)) || (!q3)) || (!q4)) || (!q5)) || (!q6) || (!q7)) = !((((((q1 && q2) && q3) && q4) && q5) && q6) && q7) := by simp
          have d2 : (((((((!r1) || (!r2)) || (!r3)) || (!r4)) || (!r5)) || (!r6)) || (!r7) || (!r8)) = !(((((((r1 && r2) && r3) && r4) && r5) && r6) && r7) && r8) := by simp
          rw [d1, d2]
          generalize ((((((q1 && q2) && q3) && q4) && q5) && q6) && q7) = u1
          generalize (((((((r1 && r2) && r3) && r4) && r5) && r6) && r7) && r8) = u2
          cases q0 <;> cases u1 <;> cases u2 <;> rfl
  · unfold m_firthref20_Right_b4 lkB
    generalize (((decide ((gt c.links i).a0 < 1)) || (decide (c.sites < (gt c.links i).a1))) || (decide ((gt c.links i).a1 ≤ (gt c.links i).a0))) = x
    cases x with
    | true => rfl
    | false =>
      rw [bif_f rfl, forU_all (p := fun k => !(gt c.links k == gt c.links i)) (r := some false) (fun f k hk => ?_)]
      · generalize allFrom (fun k => !(gt c.links k == gt c.links i)) 0 i = u
        cases u <;> rfl
      · unfold m_firthref20_Right_b5
        rw [chk_t (by rw [decide_eq_true_eq]; omega)]
        cases (gt c.links k == gt c.links i) <;> rfl
end Fw
end Go.Proofs.YtogmioecalmalaaGreat

namespace Go.Proofs.YtogmioecalmalaaGreat
namespace Fw
set_option linter.unusedVariables false
set_option linter.unusedSimpArgs false
set_option linter.unusedSectionVars false
/-- with whom a site is linked -/
def adj (s : Int) : List Dapi_arr2 → List Int
  | [] => []
  | e :: l => bif e.a0 == s then e.a1 :: adj s l else bif e.a1 == s then e.a0 :: adj s l else adj s l
theorem adj_len (s : Int) : ∀ l, (adj s l).length ≤ l.length
  | [] => Nat.le_refl _
  | e :: l => by
    have := adj_len s l
    unfold adj
    cases e.a0 == s with
    | true => simpa using this
    | false =>
      cases e.a1 == s with
      | true => simpa using this
      | false => simp; omega
theorem mem_adj {s x : Int} : ∀ {l : List Dapi_arr2}, x ∈ adj s l → ∃ e ∈ l, (e.a0 = s ∧ e.a1 = x) ∨ (e.a0 ≠ s ∧ e.a1 = s ∧ e.a0 = x)
  | [], h => by cases h
  | e :: l, h => by
    unfold adj at h
    have hrec : x ∈ adj s l → ∃ e' ∈ e :: l, (e'.a0 = s ∧ e'.a1 = x) ∨ (e'.a0 ≠ s ∧ e'.a1 = s ∧ e'.a0 = x) := fun h =>
      let ⟨e', h1, h2⟩ := mem_adj h; ⟨e', List.mem_cons_of_mem _ h1, h2⟩
    cases h0 : e.a0 == s with
    | true =>
      rw [h0] at h
      rcases List.mem_cons.1 h with rfl | h
      · exact ⟨e, List.mem_cons_self, .inl ⟨by simpa using h0, rfl⟩⟩
      · exact hrec h
    | false =>
      rw [h0] at h
      have hne : e.a0 ≠ s := by simpa using h0
      cases h1 : e.a1 == s with
      | true =>
        rw [h1] at h
        rcases List.mem_cons.1 h with rfl | h
        · exact ⟨e, List.mem_cons_self, .inr ⟨hne, by simpa using h1, rfl⟩⟩
        · exact hrec h
      | false => rw [h1] at h; exact hrec h
theorem arr2_ext {x y : Dapi_arr2} (h0 : x.a0 = y.a0) (h1 : x.a1 = y.a1) : x = y := by cases x; cases y; simp at h0 h1; rw [h0, h1]
theorem adj_nodup {s : Int} : ∀ {l : List Dapi_arr2}, l.Nodup → (∀ e ∈ l, e.a0 < e.a1) → (adj s l).Nodup
  | [], _, _ => List.nodup_nil
  | e :: l, hn, hlt => by
    obtain ⟨h1, h2⟩ := List.nodup_cons.1 hn
    have ih := adj_nodup (s := s) h2 fun x hx => hlt x (List.mem_cons_of_mem _ hx)
    have he := hlt e List.mem_cons_self
    unfold adj
    cases h0 : e.a0 == s with
    | true =>
      have h0' : e.a0 = s := by simpa using h0
      refine List.nodup_cons.2 ⟨fun hm => ?_, ih⟩
      obtain ⟨e', m1, ⟨q1, q2⟩ | ⟨q1, q2, q3⟩⟩ := mem_adj hm
      · exact h1 (arr2_ext (x := e) (y := e') (by omega) (by omega) ▸ m1)
      · have := hlt e' (List.mem_cons_of_mem _ m1); omega
    | false =>
      cases h3 : e.a1 == s with
      | true =>
        have h3' : e.a1 = s := by simpa using h3
        refine List.nodup_cons.2 ⟨fun hm => ?_, ih⟩
        obtain ⟨e', m1, ⟨q1, q2⟩ | ⟨q1, q2, q3⟩⟩ := mem_adj hm
        · have := hlt e' (List.mem_cons_of_mem _ m1); omega
        · exact h1 (arr2_ext (x := e) (y := e') (by omega) (by omega) ▸ m1)
      | false => exact ih
theorem adj_loop {self : Int} {K : List Int → Option (Odisk_Disk × Option Osite_Site × Int)} : ∀ (l : List Dapi_arr2) (i : Nat) (x : List Int), x.length + l.length ≤ lim → forI (m_site_Open_b5 self) K i l x = K (x ++ adj self l)
  | [], i, x, _ => by show K x = _; rw [show adj self [] = [] from rfl, List.append_nil]
  | e :: l, i, x, h => by
    have h' : x.length + l.length + 1 ≤ lim := by rw [List.length_cons] at h; omega
    show m_site_Open_b5 self (forI (m_site_Open_b5 self) K (i + 1) l) i e x = _
    have ih := fun y hy => adj_loop (self := self) (K := K) l (i + 1) y hy
    generalize forI (m_site_Open_b5 self) K (i + 1) l = f at ih ⊢
    unfold m_site_Open_b5 m_site_Open_j6 adj
    cases e.a0 == self with
    | true =>
      rw [bif_t rfl, bif_t rfl, chk_t (by rw [decide_eq_true_eq]; omega), ih _ (by rw [List.length_append, List.length_singleton]; omega), List.append_assoc]; rfl
    | false =>
      rw [bif_f rfl, bif_f rfl]
      cases e.a1 == self with
      | true =>
        rw [bif_t rfl, bif_t rfl, chk_t (by rw [decide_eq_true_eq]; omega), ih _ (by rw [List.length_append, List.length_singleton]; omega), List.append_assoc]; rfl
      | false => rw [bif_f rfl, bif_f rfl, ih _ (by omega)]
/-- what right links are -/
structure LkOk (c : Dapi_Conf) : Prop where
  nd : c.links.Nodup
  rng : ∀ e ∈ c.links, 1 ≤ e.a0 ∧ e.a0 < e.a1 ∧ e.a1 ≤ c.sites
theorem lk_ok {c : Dapi_Conf} (h : allFrom (lkB c) 0 c.links.length = true) : LkOk c := by
  rw [all0_iff] at h
  have hb : ∀ i, i < c.links.length → (1 ≤ (gt c.links i).a0 ∧ (gt c.links i).a0 < (gt c.links i).a1 ∧ (gt c.links i).a1 ≤ c.sites) ∧ ∀ k, k < i → gt c.links k ≠ gt c.links i := by
    intro i hi
    have := h i hi
    unfold lkB at this
    obtain ⟨h1, h2⟩ := (Bool.and_eq_true _ _).mp this
    rw [all0_iff] at h2
    simp only [Bool.not_eq_true', Bool.or_eq_false_iff, decide_eq_false_iff_not] at h1
    exact ⟨by omega, fun k hk => by simpa using h2 k hk⟩
  refine ⟨?_, fun e he => ?_⟩
  · unfold List.Nodup
    rw [List.pairwise_iff_getElem]
    intro i j hi hj hij
    have := (hb j hj).2 i hij
    rwa [gt_eq hi, gt_eq hj] at this
  · obtain ⟨i, hi, rfl⟩ := mem_gt he
    exact (hb i hi).1
theorem links_ok {c : Dapi_Conf} {self : Int} (h : LkOk c) : (∀ x ∈ srtI (adj self c.links), 1 ≤ x ∧ x ≤ c.sites ∧ x ≠ self) ∧ (srtI (adj self c.links)).Pairwise (· < ·) := by
  have hp := srtI_perm (adj self c.links)
  refine ⟨fun x hx => ?_, ?_⟩
  · obtain ⟨e, he, h1⟩ := mem_adj (hp.mem_iff.1 hx)
    have := h.rng e he
    omega
  · have h1 := srtI_srt (adj self c.links)
    have h2 : (srtI (adj self c.links)).Nodup := hp.nodup_iff.2 (adj_nodup h.nd fun e he => (h.rng e he).2.1)
    exact (h1.and h2).imp fun ⟨a, b⟩ => by omega
theorem e_QRight {c : Dqueue_Conf} (hl : c.links.length ≤ lim) (h1 : ∀ x ∈ c.links, 1 ≤ x ∧ x ≤ c.sites ∧ x ≠ c.self) (h2 : c.links.Pairwise (· < ·)) (hr : m_ring_Right c.members = some true)
    (hs : (((((((1 ≤ c.sites ∧ c.sites ≤ 16) ∧ 1 ≤ c.self) ∧ c.self ≤ c.sites) ∧ 1 ≤ c.cap) ∧ c.cap ≤ 65536) ∧ 0 ≤ c.base) ∧ c.base ≤ 4611686018427387904)) : m_queue_Conf_right c = some true := by
  unfold m_queue_Conf_right
  rw [forI_all (p := fun _ => true) (r := some false) (fun f i hi => ?_)]
  · rw [show allFrom (fun _ => true) 0 c.links.length = true from all0_iff.2 fun _ _ => rfl, bif_t rfl, hr, gcall_s, Option.bind_some]
    have e : ((((((((decide (1 ≤ c.sites)) && (decide (c.sites ≤ 16))) && (decide (1 ≤ c.self))) && (decide (c.self ≤ c.sites))) && (decide (1 ≤ c.cap))) && (decide (c.cap ≤ 65536))) && (decide (0 ≤ c.base))) && (decide (c.base ≤ 4611686018427387904))) = true := by
      simp only [Bool.and_eq_true, decide_eq_true_eq]; exact hs
    rw [e]; rfl
  · unfold m_queue_Conf_right_b1
    have hx := h1 _ (gt_mem hi)
    have e1 : (((decide (gt c.links i < 1)) || (decide (c.sites < gt c.links i))) || (gt c.links i == c.self)) = false := by
      simp only [Bool.or_eq_false_iff, decide_eq_false_iff_not, beq_eq_false_iff_ne]
      exact ⟨⟨by omega, by omega⟩, hx.2.2⟩
    rw [e1]
    rw [lim_eq] at hl
    by_cases h0 : 0 < i
    · have hlt : gt c.links (i - 1) < gt c.links i := by
        rw [List.pairwise_iff_getElem] at h2
        have := h2 (i - 1) i (by omega) hi (by omega)
        rwa [gt_eq (by omega), gt_eq hi]
      have e2 : w64 (((i : Nat) : Int) - 1) = ((i - 1 : Nat) : Int) := by rw [w64_nat (by omega)]; omega
      rw [e2, show ((i - 1 : Nat) : Int).toNat = i - 1 by omega, chk_t (by rw [show decide (0 < ((i : Nat) : Int)) = true by simpa using h0]; exact inb_nat (by omega))]
      rw [show decide (gt c.links i ≤ gt c.links (i - 1)) = false by rw [decide_eq_false_iff_not]; omega, Bool.and_false]
      rfl
    · rw [show decide (0 < ((i : Nat) : Int)) = false by simpa using h0]
      rfl
theorem base_loop {c : Dqueue_Conf} {K : List Int → Option (Odisk_Disk × Option Oqueue_Queue × Int)} : ∀ (n i : Nat) (x : List Int), x.length + n ≤ lim → forU (m_queue_Open_b1 c) K n i x = K (x ++ List.replicate n c.base)
  | 0, i, x, _ => by show K x = _; rw [List.replicate_zero, List.append_nil]
  | n + 1, i, x, h => by
    have ih := base_loop (K := K) (c := c) n (i + 1) (x ++ [c.base]) (by rw [List.length_append, List.length_singleton]; omega)
    show m_queue_Open_b1 c (forU (m_queue_Open_b1 c) K n (i + 1)) i x = _
    generalize forU (m_queue_Open_b1 c) K n (i + 1) = f at ih ⊢
    unfold m_queue_Open_b1
    rw [chk_t (by rw [decide_eq_true_eq]; omega), ih, List.append_assoc, List.replicate_succ]; rfl
theorem clone_i {l : List Int} (h : l.length ≤ lim) : m_slices_Clone_int_int l = some l := by
  unfold m_slices_Clone_int_int nilc
  cases l with
  | nil => rfl
  | cons a l =>
    show chk _ _ = _
    rw [chk_t (by rw [decide_eq_true_eq]; omega)]; rfl
theorem clone_2 {l : List Dapi_arr2} (h : l.length ≤ lim) : m_slices_Clone_2_int_2_int l = some l := by
  unfold m_slices_Clone_2_int_2_int nilc
  cases l with
  | nil => rfl
  | cons a l =>
    show chk _ _ = _
    rw [chk_t (by rw [decide_eq_true_eq]; omega)]; rfl
/-- a log on a disk on which nothing is -/
def newLog (size : Int) : Oseglog_Log := ⟨⟨#[103]⟩, 0, max size 16, 0, 0, 0, 0⟩
def newDisk (room : Int) : Odisk_Disk := ⟨room, [], [], []⟩
theorem e_newLog (room size : Int) : m_seglog_Open (newDisk room) ⟨#[103]⟩ size = some (newDisk room, some (newLog size), [], 0) := by kernel_rfl
def newQ (c : Dqueue_Conf) (size : Int) : Oqueue_Queue := ⟨c.self, c.sites, c.links, c.cap, c.base, c.members, newLog size, List.replicate c.sites.toNat c.base, none, [], 1, [], c.members⟩
theorem e_newQ {c : Dqueue_Conf} (hl : c.links.length ≤ lim) (hm : c.members.length ≤ lim) (hr : m_queue_Conf_right c = some true) (hs : c.sites.toNat ≤ lim) (room size : Int) : m_queue_Open (newDisk room) size c = some (newDisk room, some (newQ c size), 0) := by
  unfold m_queue_Open
  rw [hr, Option.bind_some, show (!true) = false from rfl, bif_f rfl, e_newLog, Option.bind_some]
  simp only
  rw [bif_f (by decide), clone_i hl, Option.bind_some, Option.bind_some, clone_i hm, Option.bind_some, base_loop _ _ _ (by simpa using hs), List.nil_append]
  rfl
theorem sh_ok (x : Int) : i64b (ishl .i64 x 32) = true := by
  have : I64 (ishl .i64 x 32) := w64_r _
  unfold I64 at this
  unfold i64b
  rw [Bool.and_eq_true, decide_eq_true_eq, decide_eq_true_eq]
  exact this
/-- the site that comes -/
def newS (c : Dapi_Conf) (self boot : Int) : Osite_Site := ⟨c.sites, c.links, c.nodes, c.members, c.n, c.r, c.w_, c.group, c.secret, c.room, c.seg, c.cap, c.pend, c.wait, c.timeout, c.hintAfter, c.base, self, srtI (adj self c.links), ishl .i64 boot 32⟩
theorem e_SOpen {c : Dapi_Conf} {self boot room : Int} (hl : c.links.length ≤ lim) (hm : c.members.length ≤ lim) {b : Bool} (h1 : m_ring_Right c.members = some b) (hb : b = true ↔ Rgt c.members) :
    m_site_Open c self boot (newDisk room) = bif ((((rB c b && (decide (1 ≤ self))) && (decide (self ≤ c.sites))) && (decide (0 ≤ boot))) && (decide (boot < 1073741824))) then some (newDisk room, some (newS c self boot), 0) else some (newDisk room, none, 205) := by
  unfold m_site_Open
  rw [e_SRight hl hm h1 hb, Option.bind_some]
  have hg : (((((!(rB c b)) || (decide (self < 1))) || (decide (c.sites < self))) || (decide (boot < 0))) || (decide (1073741824 ≤ boot))) = !((((rB c b && (decide (1 ≤ self))) && (decide (self ≤ c.sites))) && (decide (0 ≤ boot))) && (decide (boot < 1073741824))) := by
    have n1 : (decide (self < 1)) = !(decide (1 ≤ self)) := not_dec (by omega)
    have n2 : (decide (c.sites < self)) = !(decide (self ≤ c.sites)) := not_dec (by omega)
    have n3 : (decide (boot < 0)) = !(decide (0 ≤ boot)) := not_dec (by omega)
    have n4 : (decide (1073741824 ≤ boot)) = !(decide (boot < 1073741824)) := not_dec (by omega)
    rw [n1, n2, n3, n4]
    cases rB c b <;> cases decide (1 ≤ self) <;> cases decide (self ≤ c.sites) <;> cases decide (0 ≤ boot) <;> cases decide (boot < 1073741824) <;> rfl
  rw [hg]
  cases hq : ((((rB c b && (decide (1 ≤ self))) && (decide (self ≤ c.sites))) && (decide (0 ≤ boot))) && (decide (boot < 1073741824))) with
  | false => rfl
  | true =>
    rw [show (!true) = false from rfl, bif_f rfl, bif_t rfl, clone_2 hl, Option.bind_some, clone_i hm, Option.bind_some]
    simp only [Bool.and_eq_true, decide_eq_true_eq] at hq
    obtain ⟨⟨⟨⟨h2, h3⟩, h4⟩, h5⟩, h6⟩ := hq
    have hrb := h2
    unfold rB at h2
    obtain ⟨h7, h8⟩ := (Bool.and_eq_true _ _).mp h2
    have hlk := lk_ok h7
    unfold endB at h8
    simp only [Bool.and_eq_true, decide_eq_true_eq] at h8
    have hbt : b = true := h8.1.1.1.1.2
    have hx : 1 ≤ c.sites ∧ c.sites ≤ 16 := ⟨h8.1.1.1.1.1.1.1.1, h8.1.1.1.1.1.1.1.2⟩
    have hcap : 1 ≤ c.cap ∧ c.cap ≤ 65536 := ⟨h8.1.2.1.1.1.2, h8.1.2.1.1.2⟩
    have hbase : 0 ≤ c.base ∧ c.base ≤ 4611686018427387904 := ⟨h8.2.1.2, h8.2.2⟩
    unfold m_site_Open_j1 m_inbox_New
    rw [Option.bind_some, adj_loop _ _ _ (by simpa using hl), List.nil_append]
    have hk := links_ok (self := self) hlk
    have hll : (srtI (adj self c.links)).length ≤ lim := by rw [srtI_len]; exact Nat.le_trans (adj_len _ _) hl
    rw [e_newQ (c := ⟨self, c.sites, srtI (adj self c.links), c.cap, c.base, c.members⟩) hll hm (e_QRight (c := ⟨self, c.sites, srtI (adj self c.links), c.cap, c.base, c.members⟩) hll hk.1 hk.2 (by rw [← hbt]; exact h1) ⟨⟨⟨⟨⟨⟨⟨hx.1, hx.2⟩, h3⟩, h4⟩, hcap.1⟩, hcap.2⟩, hbase.1⟩, hbase.2⟩) (by simp only; rw [lim_eq]; omega), Option.bind_some]
    simp only
    rw [bif_f (by decide), chk_t (sh_ok boot)]
    rfl
theorem p_firthlaw20_SiteConfs {Γ : Gh} {Ac_1 : Option Addr} {cc_1 : Nat} {Ac_3 : Option Addr} {cc_3 : Nat} (c_ : Dapi_Conf) (hc_ : Dapi_Conf.fits Γ Ac_1 cc_1 Ac_3 cc_3 c_) (self : Int) (hself : I64 self) (boot : Int) (hboot : I64 boot) (hbk : Dapi_Conf.bk c_ ≤ 1048576) : m_firthlaw20_SiteConfs c_ self boot = some true := by
  have hl : c_.links.length ≤ lim := by
    unfold Dapi_Conf.fits at hc_; obtain ⟨_, ⟨_, h1⟩, _⟩ := hc_; exact h1.le
  have hm : c_.members.length ≤ lim := by
    unfold Dapi_Conf.fits at hc_; obtain ⟨_, _, _, ⟨_, h1⟩, _⟩ := hc_; exact h1.le
  obtain ⟨b, h1, h2, h3⟩ := ring_same hm
  unfold m_firthlaw20_SiteConfs m_disk_New
  rw [Option.bind_some, show (⟨min (max 4096 0) 1073741824, [], [], []⟩ : Odisk_Disk) = newDisk 4096 from rfl, e_SOpen hl hm h1 h3, e_SRight hl hm h1 h3, e_rSRight hl hm h2 h3]
  unfold m_firthlaw20_awake
  cases hq : ((((rB c_ b && (decide (1 ≤ self))) && (decide (self ≤ c_.sites))) && (decide (0 ≤ boot))) && (decide (boot < 1073741824))) with
  | true =>
    rw [bif_t rfl, Option.bind_some, Option.bind_some, Option.bind_some, gcall_s, Option.bind_some, Option.bind_some, hq]
    cases rB c_ b <;> rfl
  | false =>
    rw [bif_f rfl, Option.bind_some, Option.bind_some, Option.bind_some, gcall_s, Option.bind_some, Option.bind_some, hq]
    cases rB c_ b <;> rfl
end Fw
end Go.Proofs.YtogmioecalmalaaGreat
