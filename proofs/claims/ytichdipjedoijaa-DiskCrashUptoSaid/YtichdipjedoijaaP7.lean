/- Crashes. No condition. -/
import Derived.Test.YtichdipjedoijaaP6
namespace Go.Proofs.Ytichdipjedoijaa
namespace Fw
set_option linter.unusedVariables false
set_option linter.unusedSimpArgs false
set_option linter.unusedSectionVars false

section
variable {R N : Nat} {d : Dk} {m : Md}
def cK (d : Dk) (keep : Int) : Nat := (min (max keep 0) ((d.loose.length : Nat) : Int)).toNat
def cT (d : Dk) (k : Nat) (torn : Int) : Bool := decide (k < d.loose.length) && (decide (0 < torn) && decide (0 < (gt d.loose k).tail.length))
def crashM (d : Dk) (keep torn : Int) : Mp :=
  bif cT d (cK d keep) torn then ap (.disk_add_1 (gt d.loose (cK d keep)).name ((gt d.loose (cK d keep)).tail.take torn.toNat)) (run (d.loose.take (cK d keep)) d.safe_) else run (d.loose.take (cK d keep)) d.safe_
def dCrash (d : Dk) (keep torn : Int) : Dk := ⟨d.room, crashM d keep torn, crashM d keep torn, []⟩
theorem cK_eq (keep : Int) : min (max keep 0) ((d.loose.length : Nat) : Int) = ((cK d keep : Nat) : Int) := by unfold cK; omega
theorem cK_le (keep : Int) : cK d keep ≤ d.loose.length := by unfold cK; omega
/-- what a torn change is -/
theorem torn_add (h : Rel R N d m) {k : Nat} {torn : Int} (hc : cT d k torn = true) : k < d.loose.length ∧ 0 < torn ∧ (gt d.loose k).do_ = .disk_add_1 (gt d.loose k).name (gt d.loose k).tail ∧ (gt m.todo k).kind = 1 ∧ (gt m.todo k).name = (gt d.loose k).name ∧ (gt m.todo k).data = (gt d.loose k).tail := by
  unfold cT at hc
  simp only [Bool.and_eq_true, decide_eq_true_eq] at hc
  obtain ⟨h1, h2, h3⟩ := hc
  obtain ⟨hcor, htl⟩ := h.good.cor k h1
  unfold Tl at htl
  cases hd : (gt d.loose k).do_ with
  | disk_add_1 n b =>
    rw [hd] at hcor htl
    obtain ⟨a1, a2, a3⟩ := hcor
    simp only at htl
    obtain ⟨b1, b2⟩ := htl
    exact ⟨h1, h2, by rw [b1, b2], a1, a2.trans b1.symm, a3.trans b2.symm⟩
  | disk_Disk_Rename_1 a b => rw [hd] at htl; simp only at htl; rw [htl] at h3; exact absurd h3 (Nat.lt_irrefl 0)
  | disk_Disk_Remove_1 a => rw [hd] at htl; simp only at htl; rw [htl] at h3; exact absurd h3 (Nat.lt_irrefl 0)
  | disk_Disk_Cut_1 a k' => rw [hd] at htl; simp only at htl; rw [htl] at h3; exact absurd h3 (Nat.lt_irrefl 0)
theorem torn_sz (h : Rel R N d m) {k : Nat} {torn : Int} (hc : cT d k torn = true) : Fw.sz (ap (.disk_add_1 (gt d.loose k).name ((gt d.loose k).tail.take torn.toNat)) (run (d.loose.take k) d.safe_)) ≤ R ∧
    (ap (.disk_add_1 (gt d.loose k).name ((gt d.loose k).tail.take torn.toNat)) (run (d.loose.take k) d.safe_)).length ≤ N := by
  obtain ⟨h1, _, h2, _⟩ := torn_add h hc
  have s1 := h.good.sz (k + 1) h1
  have l1 := h.good.ln (k + 1) h1
  rw [run_take h1, h2] at s1 l1
  rw [sz_add] at s1 ⊢
  refine ⟨?_, ?_⟩
  · rw [List.length_take]; omega
  · exact Nat.le_trans (Nat.le_of_eq len_mput_v) l1
theorem crash_ok (h : Rel R N d m) (keep torn : Int) : NK (crashM d keep torn) ∧ Fw.sz (crashM d keep torn) ≤ R ∧ (crashM d keep torn).length ≤ N := by
  unfold crashM
  cases hc : cT d (cK d keep) torn with
  | true => simp only [cond_true]; exact ⟨ap_nk (run_nk h.good.nk), torn_sz h hc⟩
  | false => simp only [cond_false]; exact ⟨run_nk h.good.nk, h.good.sz _ (cK_le keep), h.good.ln _ (cK_le keep)⟩
theorem e_Crash (h : Rel R N d m) (hR : R ≤ MX) (hN : N + 1 ≤ lim) (keep torn : Int) : m_disk_Disk_Crash d keep torn = some (dCrash d keep torn) := by
  have hle := cK_le (d := d) keep
  unfold m_disk_Disk_Crash
  simp only [cK_eq, Int.toNat_natCast]
  rw [chk_t (by simp [inle]; omega)]
  refine forI_run (fun i x => x = run (d.loose.take i) d.safe_) (fun x hx => ?_) (fun f i x hi hx hf => ?_) rfl
  · rw [List.length_take, Nat.min_eq_left hle] at hx
    subst hx
    unfold dCrash crashM m_disk_Disk_Crash_j2
    by_cases hk : cK d keep < d.loose.length
    · rw [bif_t (by simpa using hk), chk_t (by simp [inb]; omega)]
      have hct : decide (0 < min (max torn 0) (((gt d.loose (cK d keep)).tail.length : Nat) : Int)) = cT d (cK d keep) torn := by
        unfold cT
        rw [Bool.eq_iff_iff]
        simp only [Bool.and_eq_true, decide_eq_true_eq]
        omega
      rw [hct]
      cases hc : cT d (cK d keep) torn with
      | false => rfl
      | true =>
        obtain ⟨_, ht, _⟩ := torn_add h hc
        have htk : List.take (min (max torn 0) (((gt d.loose (cK d keep)).tail.length : Nat) : Int)).toNat (gt d.loose (cK d keep)).tail = (gt d.loose (cK d keep)).tail.take torn.toNat := by
          rw [List.take_eq_take_iff]; omega
        unfold m_disk_add
        rw [bif_t rfl, chk_t (by simp [inle]; omega), Option.bind_some, htk, e_chg (c := .disk_add_1 _ _) trivial (Nat.le_trans (torn_sz h hc).1 (MX_lim hR))]; rfl
    · rw [bif_f (by simpa using hk)]
      have : cT d (cK d keep) torn = false := by unfold cT; simp [hk]
      rw [this]; rfl
  · subst hx
    rw [List.length_take, Nat.min_eq_left hle] at hi
    have hg : gt (d.loose.take (cK d keep)) i = gt d.loose i := by
      rw [gt_eq (by rw [List.length_take]; omega), gt_eq (by omega), List.getElem_take]
    unfold m_disk_Disk_Crash_b1
    rw [hg, (h.good.step (by omega) (MX_lim hR) hN).1, Option.bind_some]
    exact hf _ rfl
theorem r_Crash (h : Rel R N d m) (hR : R ≤ MX) (hN : N + 1 ≤ lim) (keep torn : Int) : ∃ m', m_firthref07_Disk_Crash m keep torn = some m' ∧ Rel R N (dCrash d keep torn) m' := by
  have hle := cK_le (d := d) keep
  have hKe := cK_eq (d := d) keep
  have hlt := h.good.len
  obtain ⟨c1, c2, c3⟩ := crash_ok h keep torn
  refine ⟨⟨m.room, FM (crashM d keep torn), []⟩, ?_, h.rd, h.rm, rfl, rfl, Good.nil c1 c2 c3, Nat.zero_le _⟩
  unfold m_firthref07_Disk_Crash
  refine forI_run (fun i l => l = if i ≤ cK d keep then FM (run (d.loose.take i) d.safe_) else FM (crashM d keep torn)) (fun l hl => ?_) (fun f i l hi hl hf => ?_) (by rw [h.safe, if_pos (Nat.zero_le _)]; rfl)
  · rw [hl]
    split
    · rename_i hk
      have : cK d keep = m.todo.length := by omega
      have hc : cT d (cK d keep) torn = false := by unfold cT; simp; omega
      unfold crashM
      rw [hc, this]; rfl
    · rfl
  · subst hl
    rw [← hlt] at hi
    unfold m_firthref07_Disk_Crash_b16
    rcases Nat.lt_trichotomy i (cK d keep) with hik | hik | hik
    · -- changes that stay whole
      have q1 : decide (((i : Nat) : Int) < keep) = true := by rw [decide_eq_true_eq]; omega
      have q2 : ((((i : Nat) : Int) == keep) || ((((i : Nat) : Int) == 0) && decide (keep < 0))) = false := by
        rw [Bool.eq_false_iff]; intro hc
        simp only [Bool.or_eq_true, Bool.and_eq_true, beq_iff_eq, decide_eq_true_eq] at hc
        omega
      rw [if_pos (by omega), q1, bif_t rfl, (h.good.step hi (MX_lim hR) hN).2, Option.bind_some]
      unfold m_firthref07_Disk_Crash_j20 m_firthref07_Disk_Crash_j17
      rw [q2]
      exact hf _ (by rw [if_pos (by omega)])
    · subst hik
      have q1 : decide (((cK d keep : Nat) : Int) < keep) = false := by rw [decide_eq_false_iff_not]; omega
      have q2 : ((((cK d keep : Nat) : Int) == keep) || ((((cK d keep : Nat) : Int) == 0) && decide (keep < 0))) = true := by
        simp only [Bool.or_eq_true, Bool.and_eq_true, beq_iff_eq, decide_eq_true_eq]
        omega
      rw [if_pos (Nat.le_refl _), q1, bif_f rfl]
      unfold m_firthref07_Disk_Crash_j20 m_firthref07_Disk_Crash_j17
      rw [q2, Bool.true_and]
      cases hc : cT d (cK d keep) torn with
      | true =>
        obtain ⟨a1, a2, a3, a4, a5, a6⟩ := torn_add h hc
        have hpos : 0 < (gt d.loose (cK d keep)).tail.length := by
          unfold cT at hc; simp only [Bool.and_eq_true, decide_eq_true_eq] at hc; exact hc.2.2
        have hes : crashM d keep torn = ap (.disk_add_1 (gt d.loose (cK d keep)).name ((gt d.loose (cK d keep)).tail.take torn.toNat)) (run (d.loose.take (cK d keep)) d.safe_) := by unfold crashM; rw [hc]; rfl
        have hz := torn_sz h hc
        have hdid : ∀ t : Ch, t.kind = 1 → t.name = (gt d.loose (cK d keep)).name → t.data = (gt d.loose (cK d keep)).tail.take torn.toNat → m_firthref07_did (FM (run (d.loose.take (cK d keep)) d.safe_)) t = some (FM (crashM d keep torn)) := fun t t1 t2 t3 => by
          have g1 := h.good.sz (cK d keep) hle
          have g2 := h.good.ln (cK d keep) hle
          have hl := MX_lim hR
          rw [hes]
          exact e_did (run_nk h.good.nk) (c := .disk_add_1 _ _) ⟨t1, t2, t3⟩ trivial (by omega) (Nat.le_trans hz.1 hl) (by omega)
        have hcond : ((((gt m.todo (cK d keep)).kind == 1) && decide (0 < torn)) && decide (0 < (((gt m.todo (cK d keep)).data.length : Nat) : Int))) = true := by
          simp only [Bool.and_eq_true, beq_iff_eq, decide_eq_true_eq]
          rw [a6]; exact ⟨⟨a4, a2⟩, by omega⟩
        rw [hcond, bif_t rfl]
        unfold m_firthref07_Disk_Crash_j21 m_firthref07_Disk_Crash_j17
        rw [a6]
        cases hq : decide (torn < (((gt d.loose (cK d keep)).tail.length : Nat) : Int)) with
        | true =>
          have hq := of_decide_eq_true hq
          rw [bif_t rfl, chk_t (by simp [inle]; omega), hdid (⟨(gt m.todo (cK d keep)).kind, (gt m.todo (cK d keep)).name, (gt m.todo (cK d keep)).to_, List.take torn.toNat (gt d.loose (cK d keep)).tail, (gt m.todo (cK d keep)).n⟩ : Ch) a4 a5 rfl, Option.bind_some]
          exact hf _ (by rw [if_neg (by omega)])
        | false =>
          have hq := of_decide_eq_false hq
          rw [bif_f rfl, hdid _ a4 a5 (by rw [a6, List.take_of_length_le (by omega)]), Option.bind_some]
          exact hf _ (by rw [if_neg (by omega)])
      | false =>
        have hes : crashM d keep torn = run (d.loose.take (cK d keep)) d.safe_ := by unfold crashM; rw [hc]; rfl
        have hcond : ((((gt m.todo (cK d keep)).kind == 1) && decide (0 < torn)) && decide (0 < (((gt m.todo (cK d keep)).data.length : Nat) : Int))) = false := by
          rw [Bool.eq_false_iff]
          intro hx
          simp only [Bool.and_eq_true, beq_iff_eq, decide_eq_true_eq] at hx
          obtain ⟨⟨x1, x2⟩, x3⟩ := hx
          obtain ⟨hcor, htl⟩ := h.good.cor _ hi
          unfold Tl at htl
          cases hd : (gt d.loose (cK d keep)).do_ with
          | disk_add_1 n b =>
            rw [hd] at hcor htl
            obtain ⟨_, _, y3⟩ := hcor
            simp only at htl
            rw [y3, ← htl.2] at x3
            have : cT d (cK d keep) torn = true := by
              unfold cT; simp only [Bool.and_eq_true, decide_eq_true_eq]; exact ⟨hi, x2, by omega⟩
            rw [hc] at this; cases this
          | disk_Disk_Rename_1 a b => rw [hd] at hcor; have := hcor.1; omega
          | disk_Disk_Remove_1 a => rw [hd] at hcor; have := hcor.1; omega
          | disk_Disk_Cut_1 a k' => rw [hd] at hcor; have := hcor.1; omega
        rw [hcond, bif_f rfl]
        exact hf _ (by rw [if_neg (by omega), hes])
    · have q1 : decide (((i : Nat) : Int) < keep) = false := by rw [decide_eq_false_iff_not]; omega
      have q2 : ((((i : Nat) : Int) == keep) || ((((i : Nat) : Int) == 0) && decide (keep < 0))) = false := by
        rw [Bool.eq_false_iff]; intro hc
        simp only [Bool.or_eq_true, Bool.and_eq_true, beq_iff_eq, decide_eq_true_eq] at hc
        omega
      rw [if_neg (by omega), q1, bif_f rfl]
      unfold m_firthref07_Disk_Crash_j20 m_firthref07_Disk_Crash_j17
      rw [q2]
      exact hf _ (by rw [if_neg (by omega)])
end
end Fw
end Go.Proofs.Ytichdipjedoijaa
