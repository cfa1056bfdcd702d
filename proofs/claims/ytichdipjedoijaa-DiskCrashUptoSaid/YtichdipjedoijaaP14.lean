/- DiskCrash. No condition. -/
import Derived.Test.YtichdipjedoijaaP13
namespace Go.Proofs.Ytichdipjedoijaa
namespace Fw
set_option linter.unusedVariables false
set_option linter.unusedSimpArgs false
set_option linter.unusedSectionVars false

/-- what a change of a script does: nothing, or one change, that hangs on what is seen and the room alone -/
def Act (d : Dk) (o : Dfirthlaw07_Op) : Prop := (dAct d o).1 = d ∨ ∃ c : Dc, (dAct d o).1 = dDone d c ∧ (∀ u : Dk, u.seen = d.seen → u.room = d.room → (dAct u o).1 = dDone u c) ∧
  ((o.kind = 1 ∧ okn o.name = true ∧ (o.data.length : Int) ≤ d.room - (sz d.seen : Int) ∧ c = ⟨.disk_add_1 o.name o.data, o.name, o.data⟩) ∨ (o.kind ≠ 1 ∧ c.tail = []))
theorem there_eq {u d : Dk} (h : u.seen = d.seen) (n : ByteArray) : dThere u n = dThere d n := by unfold dThere; rw [h]
theorem act_cases {d : Dk} {o : Dfirthlaw07_Op} (h1 : 1 ≤ o.kind) (h4 : o.kind ≤ 4) : Act d o := by
  have k5 : (o.kind == 5) = false := by rw [beq_eq_false_iff_ne]; omega
  have k6 : (o.kind == 6) = false := by rw [beq_eq_false_iff_ne]; omega
  have k7 : (o.kind == 7) = false := by rw [beq_eq_false_iff_ne]; omega
  unfold Act dAct
  rw [k5, k6, k7]
  simp only [cond_false]
  cases hk1 : o.kind == 1 with
  | true =>
    rw [beq_iff_eq] at hk1
    simp only [cond_true]
    cases ho : okn o.name with
    | false => left; unfold dApp; rw [ho]; rfl
    | true =>
      by_cases hf : (o.data.length : Int) ≤ d.room - (sz d.seen : Int)
      · right
        refine ⟨⟨.disk_add_1 o.name o.data, o.name, o.data⟩, by rw [dApp_ok ho hf], fun u hs hr => ?_, .inl ⟨hk1, rfl, hf, rfl⟩⟩
        rw [dApp_ok ho (by rw [hs, hr]; exact hf)]
      · left; rw [dApp_full ho (by omega)]
  | false =>
  have hne : o.kind ≠ 1 := beq_eq_false_iff_ne.1 hk1
  simp only [cond_false]
  cases o.kind == 2 with
  | true =>
    simp only [cond_true]; unfold dCut
    cases ht : dThere d o.name != 0 with
    | true => left; rfl
    | false =>
      cases hc : decide (o.n < 0) || decide (((((mget o.name d.seen).getD []).length : Nat) : Int) < o.n) with
      | true => left; rfl
      | false => right; exact ⟨_, rfl, fun u hs hr => by rw [there_eq hs, ht, hs, hc]; rfl, .inr ⟨hne, rfl⟩⟩
  | false =>
  simp only [cond_false]
  cases o.kind == 3 with
  | true =>
    simp only [cond_true]; unfold dRen
    cases hab : okn o.name && okn o.to_ with
    | false => left; rfl
    | true =>
      cases ht : dThere d o.name != 0 with
      | true => left; rfl
      | false => right; exact ⟨_, rfl, fun u hs hr => by rw [there_eq hs, ht]; rfl, .inr ⟨hne, rfl⟩⟩
  | false =>
  simp only [cond_false]
  cases hk4 : o.kind == 4 with
  | true =>
    simp only [cond_true]; unfold dRem
    cases ht : dThere d o.name != 0 with
    | true => left; rfl
    | false => right; exact ⟨_, rfl, fun u hs hr => by rw [there_eq hs, ht]; rfl, .inr ⟨hne, rfl⟩⟩
  | false => left; rfl
section
variable {R N : Nat} {d : Dk} {m : Md}
theorem crash_all {keep torn : Int} (hseen : d.seen = run d.loose d.safe_) (h : (d.loose.length : Int) ≤ max keep 0) : crashM d keep torn = d.seen := by
  have hk : cK d keep = d.loose.length := by unfold cK; omega
  have hc : cT d (cK d keep) torn = false := by unfold cT; rw [hk]; simp
  unfold crashM
  rw [hc, hk, List.take_length, hseen]; rfl
/-- a change behind those that stay is lost -/
theorem crash_more {c : Dc} {keep torn : Int} (h : max keep 0 < (d.loose.length : Int)) : crashM (dDone d c) keep torn = crashM d keep torn := by
  have hk : cK d keep < d.loose.length := by unfold cK; omega
  have hk2 : cK (dDone d c) keep = cK d keep := by
    unfold cK
    show (min (max keep 0) (((d.loose ++ [c]).length : Nat) : Int)).toNat = _
    rw [List.length_append]; simp only [List.length_cons, List.length_nil]; omega
  have hg : gt (dDone d c).loose (cK d keep) = gt d.loose (cK d keep) := gt_append_left hk
  have ht : (dDone d c).loose.take (cK d keep) = d.loose.take (cK d keep) := List.take_append_of_le_length (Nat.le_of_lt hk)
  have hct : cT (dDone d c) (cK d keep) torn = cT d (cK d keep) torn := by
    unfold cT
    rw [hg, decide_eq_true (show cK d keep < (dDone d c).loose.length from by show _ < (d.loose ++ [c]).length; rw [List.length_append]; omega), decide_eq_true hk]
  unfold crashM
  rw [hk2, hct, hg, ht]; rfl
/-- the change that is torn -/
theorem crash_torn {c : Dc} {keep torn : Int} (hseen : d.seen = run d.loose d.safe_) (h : max keep 0 = (d.loose.length : Int)) : crashM (dDone d c) keep torn = bif decide (0 < torn) && decide (0 < c.tail.length) then ap (.disk_add_1 c.name (c.tail.take torn.toNat)) d.seen else d.seen := by
  have hk2 : cK (dDone d c) keep = d.loose.length := by
    unfold cK
    show (min (max keep 0) (((d.loose ++ [c]).length : Nat) : Int)).toNat = _
    rw [List.length_append]; simp only [List.length_cons, List.length_nil]; omega
  have hg : gt (dDone d c).loose d.loose.length = c := by
    show gt (d.loose ++ [c]) d.loose.length = c
    rw [gt_append_right (Nat.le_refl _), Nat.sub_self]; rfl
  have ht : (dDone d c).loose.take d.loose.length = d.loose := by
    show (d.loose ++ [c]).take d.loose.length = _
    rw [List.take_append_of_le_length (Nat.le_refl _), List.take_length]
  unfold crashM cT
  rw [hk2, hg, ht, decide_eq_true (show d.loose.length < (dDone d c).loose.length from by show _ < (d.loose ++ [c]).length; rw [List.length_append]; simp), Bool.true_and, hseen]; rfl
end
end Fw
end Go.Proofs.Ytichdipjedoijaa
