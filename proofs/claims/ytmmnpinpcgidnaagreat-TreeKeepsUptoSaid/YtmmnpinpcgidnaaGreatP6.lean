/- What the printed models of the reference's layer 5 come to. No condition. -/
import Derived.Test.YtmmnpinpcgidnaaGreatP5
namespace Go.Proofs.YtmmnpinpcgidnaaGreat
namespace Fw
set_option linter.unusedVariables false
set_option linter.unusedSimpArgs false
set_option linter.unusedSectionVars false
theorem any_all (p : Nat → Bool) (k n : Nat) : anyFrom p k n = !(allFrom (fun i => !(p i)) k n) := by
  unfold anyFrom allFrom
  rw [← List.not_any_eq_all_not, Bool.not_not]
theorem inb_nat {i n : Nat} (h : i < n) : inb ((i : Nat) : Int) n = true := by unfold inb; rw [Bool.and_eq_true, decide_eq_true_eq, decide_eq_true_eq]; omega
theorem w64_s {i : Nat} (h : i ≤ 4294967296) : w64 (((i : Nat) : Int) + 1) = ((i + 1 : Nat) : Int) := by rw [w64_i (by unfold I64; omega)]; omega
theorem e_SameOne (a b : Ver) : m_firthref05_SameOne a b = some (r5SameOne a b) := by
  unfold m_firthref05_SameOne r5SameOne
  rw [e_r3Same]
  simp only [Option.bind_some, gcall_s]
  cases (((a.dot == b.dot) && (a.gone == b.gone)) && (a.val == b.val)) <;> rfl
theorem e_r5Same (a b : List Ver) : m_firthref05_Same a b = some (r5Same a b) := by
  unfold m_firthref05_Same r5Same
  by_cases hl : a.length = b.length
  · rw [nat_f hl, show (a.length == b.length) = true by simpa using hl, cond_false, cond_true]
    rw [forI_all (p := fun i => r5SameOne (gt a i) (gt b i)) (r := some false) (fun f i hi => ?_)]
    · cases allFrom (fun i => r5SameOne (gt a i) (gt b i)) 0 a.length <;> rfl
    · unfold m_firthref05_Same_b1
      rw [chk_t (by simpa using (by omega : i < b.length)), e_SameOne]
      show (bif !(r5SameOne (gt a i) (gt b i)) then _ else _) = _
      cases r5SameOne (gt a i) (gt b i) <;> rfl
  · rw [nat_t hl, show (a.length == b.length) = false by simpa using hl]; rfl
theorem e_r5Behind (l : List Ver) (d : Dot) : m_firthref05_Behind l d = some (r5Behind l d) := by
  unfold m_firthref05_Behind
  refine forI_inv (fun i _ => some (r5Behind (l.drop i) d)) (fun _ _ => True) (fun s _ => ?_) (fun f i s hi _ hf => ?_) trivial
  · rw [List.drop_of_length_le (Nat.le_refl _)]; rfl
  · unfold m_firthref05_Behind_b1
    rw [hf () trivial, drop_gt hi, r5Behind, e_r3Has]
    simp only [Option.bind_some]
    cases r3Has (gt l i).past d <;> rfl
theorem e_Less (a b : Dot) : m_firthref05_Less a b = some (r5Less a b) := by
  unfold m_firthref05_Less r5Less
  cases a.s != b.s <;> rfl
theorem e_r5RightOne {v : Ver} (hv : VerOk v) : m_firthref05_RightOne v = some (r5RightOne v) := by
  unfold m_firthref05_RightOne r5RightOne
  rw [e_r3Dot, e_r3Right hv.len hv.past, e_r3Top]
  simp only [Option.bind_some, gcall_s]
  cases r3Dot v.dot
  · rfl
  · cases r3Right v.past
    · rfl
    · simp only [Bool.not_true, Bool.not_false, Bool.or_self, cond_true, Bool.false_or]
      cases decide (v.dot.n ≤ r3Top v.past v.dot.s)
      · cases v.gone <;> rfl
      · rfl
theorem e_r5Right {l : List Ver} (hl : VersOk l) : m_firthref05_Right l = some (r5Right l) := by
  unfold m_firthref05_Right r5Right
  have hd : (decide (512 < ((l.length : Nat) : Int))) = decide (512 < l.length) := by rw [Bool.eq_iff_iff, decide_eq_true_eq, decide_eq_true_eq]; omega
  rw [hd]
  cases decide (512 < l.length)
  · rw [cond_false, cond_false, forI_all (p := fun i => !((!(r5RightOne (gt l i))) || r5Behind l (gt l i).dot) && !(decide (0 < (i : Int)) && !(r5Less (gt l (i - 1)).dot (gt l i).dot))) (r := some false) (fun f i hi => ?_)]
    · cases allFrom (fun i => !((!(r5RightOne (gt l i))) || r5Behind l (gt l i).dot) && !(decide (0 < (i : Int)) && !(r5Less (gt l (i - 1)).dot (gt l i).dot))) 0 l.length <;> rfl
    · unfold m_firthref05_Right_b1
      have hl1 := hl.1
      rw [lim_eq] at hl1
      rw [e_r5RightOne (hl.2 _ (gt_mem hi)), e_r5Behind, e_Less, w64_nat (by omega)]
      simp only [Option.bind_some, gcall_s]
      cases r5RightOne (gt l i)
      · rfl
      · cases r5Behind l (gt l i).dot
        · by_cases h0 : 0 < (i : Int)
          · rw [show decide (0 < ((i : Nat) : Int)) = true by simpa using h0]
            have hi1 : (((i : Nat) : Int) - 1).toNat = i - 1 := by omega
            simp only [Bool.not_true, Bool.not_false, cond_true, Bool.or_self, cond_false, Bool.true_and]
            rw [chk_t (show imp _ (inb (((i : Nat) : Int) - 1) l.length) = true by
              show inb _ _ = true
              unfold inb
              rw [Bool.and_eq_true, decide_eq_true_eq, decide_eq_true_eq]; omega), hi1]
            cases r5Less (gt l (i - 1)).dot (gt l i).dot <;> rfl
          · rw [show decide (0 < ((i : Nat) : Int)) = false by simpa using h0]
            rfl
        · rfl
  · rfl
theorem r5Same_iff {a b : List Ver} : r5Same a b = true ↔ a = b := by
  unfold r5Same
  by_cases hl : a.length = b.length
  · rw [show (a.length == b.length) = true by simpa using hl, cond_true, all0_iff]
    constructor
    · intro h; exact gt_ext hl fun i hi => sameOne_iff.1 (h i hi)
    · rintro rfl i _; exact sameOne_iff.2 rfl
  · rw [show (a.length == b.length) = false by simpa using hl, cond_false]
    simp only [Bool.false_eq_true, false_iff]
    rintro rfl; exact hl rfl
end Fw
end Go.Proofs.YtmmnpinpcgidnaaGreat
