/- DiskSafe. No condition. -/
import Derived.Test.YtichdipjedoijaaP9
namespace Go.Proofs.Ytichdipjedoijaa
namespace Fw
set_option linter.unusedVariables false
set_option linter.unusedSimpArgs false
set_option linter.unusedSectionVars false

section
variable {R N : Nat} {d : Dk} {m : Md}
theorem crash_00 : crashM d 0 0 = d.safe_ := by
  have h1 : cK d 0 = 0 := by unfold cK; omega
  have h2 : cT d 0 0 = false := by unfold cT; simp
  unfold crashM
  rw [h1, h2]; rfl
theorem crash_nil (h : d.loose = []) (keep torn : Int) : crashM d keep torn = d.safe_ := by
  have h2 : cT d (cK d keep) torn = false := by unfold cT; rw [h]; simp
  unfold crashM
  rw [h2, h]; simp [run]
/-- a change keeps what is safe -/
theorem act_safe {o : Dfirthlaw07_Op} (h1 : 1 ≤ o.kind) (h4 : o.kind ≤ 4) : (dAct d o).1.safe_ = d.safe_ := by
  have k5 : (o.kind == 5) = false := by rw [beq_eq_false_iff_ne]; omega
  have k6 : (o.kind == 6) = false := by rw [beq_eq_false_iff_ne]; omega
  have k7 : (o.kind == 7) = false := by rw [beq_eq_false_iff_ne]; omega
  unfold dAct
  rw [k5, k6, k7]
  simp only [cond_false]
  cases o.kind == 1 with
  | true =>
    simp only [cond_true]; unfold dApp
    cases okn o.name <;> cases decide (d.room - (sz d.seen : Int) < (o.data.length : Int)) <;> rfl
  | false =>
  simp only [cond_false]
  cases o.kind == 2 with
  | true =>
    simp only [cond_true]; unfold dCut
    cases dThere d o.name != 0 <;> cases decide (o.n < 0) || decide (((((mget o.name d.seen).getD []).length : Nat) : Int) < o.n) <;> rfl
  | false =>
  simp only [cond_false]
  cases o.kind == 3 with
  | true =>
    simp only [cond_true]; unfold dRen
    cases okn o.name && okn o.to_ <;> cases dThere d o.name != 0 <;> rfl
  | false =>
  simp only [cond_false]
  cases o.kind == 4 with
  | true =>
    simp only [cond_true]; unfold dRem
    cases dThere d o.name != 0 <;> rfl
  | false => rfl
end
theorem p_firthlaw07_DiskSafe {Γ : Gh} {A : Option Addr} {c : Nat} {script : List Dfirthlaw07_Op} (hs : Sl dfirthlaw07_OpT Γ A script) (hc : script.length ≤ c) {A2 : Option Addr} {c2 : Nat} {more : List Dfirthlaw07_Op} (hs2 : Sl dfirthlaw07_OpT Γ A2 more) (hc2 : more.length ≤ c2) (hb : bkL Dfirthlaw07_Op.bk script ≤ 1048576) (hb2 : bkL Dfirthlaw07_Op.bk more ≤ 1048576) : m_firthlaw07_DiskSafe script more = some true := by
  have hlen := script_len hb
  have hlen2 := script_len hb2
  have hR := rm_le 2048
  unfold m_firthlaw07_DiskSafe
  rw [e_awake, Option.bind_some, show (!true) = false from rfl, bif_f rfl, e_New, Option.bind_some, e_mNew, Option.bind_some]
  refine forI_run (fun i (s : Md × Dk) => Rel (rm 2048) i s.2 s.1) (fun s hI => ?_) (fun f i s hi hI hf => ?_) (rel0 2048)
  · obtain ⟨m, d⟩ := s
    simp only at hI ⊢
    have hN : script.length + 1 ≤ lim := by rw [lim_v]; omega
    obtain ⟨ms, _, hs1⟩ := r_Sync hI hR hN
    rw [e_Sync, Option.bind_some, e_Files hs1 hR hN, Option.bind_some]
    refine forI_run (fun i (s : Dk × Md) => (∃ m1, Rel (rm 2048) (script.length + i) s.1 m1) ∧ (∃ d2, Rel (rm 2048) (script.length + i) d2 s.2) ∧ s.1.safe_ = d.seen) (fun s hI2 => ?_) (fun f i s hi hI2 hf => ?_) ⟨⟨ms, hs1⟩, ⟨d, hI⟩, rfl⟩
    · obtain ⟨e, m2⟩ := s
      obtain ⟨⟨m1, h1⟩, _, h3⟩ := hI2
      simp only at h1 h3 ⊢
      have hN2 : script.length + more.length + 1 ≤ lim := by rw [lim_v]; omega
      obtain ⟨mc, _, hc1⟩ := r_Crash h1 hR hN2 0 0
      obtain ⟨mc2, _, hc2⟩ := r_Crash hc1 hR hN2 5 5
      rw [e_Crash h1 hR hN2, Option.bind_some, e_Files hc1 hR hN2, Option.bind_some, e_Same, Option.bind_some]
      have e1 : (dCrash e 0 0).seen = d.seen := (crash_00 (d := e)).trans h3
      have e2 : (dCrash (dCrash e 0 0) 5 5).seen = d.seen := (crash_nil (d := dCrash e 0 0) rfl 5 5).trans e1
      rw [e1, show (dSync d).seen = d.seen from rfl]
      simp only [decide_true, Bool.not_true, cond_false]
      rw [e_Crash hc1 hR hN2, Option.bind_some, e_Files hc2 hR hN2, Option.bind_some, e_Same, Option.bind_some, e2]
      simp
    · obtain ⟨e, m2⟩ := s
      obtain ⟨⟨m1, h1⟩, ⟨d2, h2⟩, h3⟩ := hI2
      simp only at h1 h2 h3 ⊢
      have hN2 : script.length + i + 1 ≤ lim := by rw [lim_v]; omega
      unfold m_firthlaw07_DiskSafe_b5 m_firthlaw07_DiskSafe_j6
      simp only
      cases hk : decide (1 ≤ (gt more i).kind) && decide ((gt more i).kind ≤ 4) with
      | false => exact hf _ ⟨⟨m1, h1.mono (by omega)⟩, ⟨d2, h2.mono (by omega)⟩, h3⟩
      | true =>
        simp only [Bool.and_eq_true, decide_eq_true_eq] at hk
        obtain ⟨m', a, b⟩ := e_does h1 h2 hR hN2 hR hN2 (gt more i)
        obtain ⟨m1', _, b1⟩ := e_does1 h1 hR hN2 (gt more i)
        rw [bif_t rfl, a, Option.bind_some]
        exact hf _ ⟨⟨m1', b1⟩, ⟨_, b⟩, (act_safe hk.1 hk.2).trans h3⟩
  · obtain ⟨m, d⟩ := s
    simp only at hI
    have hN : i + 1 ≤ lim := by rw [lim_v]; omega
    obtain ⟨m', a, b⟩ := e_does1 hI hR hN (gt script i)
    unfold m_firthlaw07_DiskSafe_b1
    simp only
    rw [a, Option.bind_some]
    exact hf _ b
end Fw
end Go.Proofs.Ytichdipjedoijaa
