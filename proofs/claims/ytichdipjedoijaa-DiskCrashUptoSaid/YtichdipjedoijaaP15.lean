/- DiskCrash: the law. No condition. -/
import Derived.Test.YtichdipjedoijaaP14
namespace Go.Proofs.Ytichdipjedoijaa
namespace Fw
set_option linter.unusedVariables false
set_option linter.unusedSimpArgs false
set_option linter.unusedSectionVars false

theorem dDone_len {d : Dk} {c : Dc} : (dDone d c).loose.length = d.loose.length + 1 := by
  show (d.loose ++ [c]).length = _
  rw [List.length_append]; rfl
theorem p_firthlaw07_DiskCrash {Γ : Gh} {A : Option Addr} {c : Nat} {safe_ : List Dfirthlaw07_Op} (hs : Sl dfirthlaw07_OpT Γ A safe_) (hc : safe_.length ≤ c) {A2 : Option Addr} {c2 : Nat} {loose : List Dfirthlaw07_Op} (hs2 : Sl dfirthlaw07_OpT Γ A2 loose) (hc2 : loose.length ≤ c2) (fate0 : Int) (hf0 : I64 fate0) (fate1 : Int) (hf1 : I64 fate1)
    (hb : bkL Dfirthlaw07_Op.bk safe_ ≤ 1048576) (hb2 : bkL Dfirthlaw07_Op.bk loose ≤ 1048576) : m_firthlaw07_DiskCrash safe_ loose fate0 fate1 = some true := by
  have hlen := script_len hb
  have hlen2 := script_len hb2
  have hR := rm_le 4096
  have hl := lim_v
  unfold m_firthlaw07_DiskCrash
  rw [e_awake, Option.bind_some, show (!true) = false from rfl, bif_f rfl, e_New, Option.bind_some, Option.bind_some, e_mNew, Option.bind_some]
  refine forI_run (fun i (s : Md × Dk × Dk) => (∃ m1, Rel (rm 4096) i s.2.2 m1) ∧ s.2.1 = s.2.2 ∧ ∃ d2, Rel (rm 4096) (2 * i) d2 s.1) (fun s hI => ?_) (fun f i s hi hI hf => ?_) ⟨⟨_, rel0 4096⟩, rfl, _, rel0 4096⟩
  · obtain ⟨m, u, d⟩ := s
    obtain ⟨⟨m1, h1⟩, hu, ⟨d2, h2⟩⟩ := hI
    simp only at h1 hu h2 ⊢
    subst hu
    rw [e_Sync, Option.bind_some, Option.bind_some]
    obtain ⟨ms, _, hs1⟩ := r_Sync h1 hR (by omega)
    refine forI_run (fun i (s : Dk × Dk × Md) => (∃ m1, Rel (rm 4096) (safe_.length + i) s.2.1 m1) ∧ (∃ m2, Rel (rm 4096) (safe_.length + i) s.1 m2) ∧ (∃ d2, Rel (rm 4096) (2 * safe_.length + 2 * i) d2 s.2.2) ∧ s.1.seen = crashM s.2.1 fate0 fate1) (fun s hI2 => ?_) (fun f i s hi hI2 hf => ?_) ⟨⟨_, hs1⟩, ⟨_, hs1⟩, ⟨_, h2⟩, (crash_nil (d := dSync u) rfl _ _).symm⟩
    · obtain ⟨u2, d3, m3⟩ := s
      obtain ⟨⟨m4, g1⟩, ⟨m5, g2⟩, _, g3⟩ := hI2
      simp only at g1 g2 g3 ⊢
      obtain ⟨m6, _, g4⟩ := r_Crash g1 hR (by omega) fate0 fate1
      rw [e_Crash g1 hR (by omega), Option.bind_some]
      have hL : m_disk_Disk_Loose (dCrash d3 fate0 fate1) = some 0 := rfl
      rw [hL, Option.bind_some, bif_t (by rfl), e_Files g4 hR (by omega), Option.bind_some, e_Files g2 hR (by omega), Option.bind_some, e_Same, Option.bind_some, g3]
      simp [dCrash]
    · obtain ⟨u2, d3, m3⟩ := s
      obtain ⟨⟨m4, g1⟩, ⟨m5, g2⟩, ⟨d5, g5⟩, g3⟩ := hI2
      simp only at g1 g2 g3 g5 ⊢
      generalize hop : gt loose i = o at *
      unfold m_firthlaw07_DiskCrash_b11 m_firthlaw07_DiskCrash_j14 m_firthlaw07_DiskCrash_j12
      simp only
      have hN : safe_.length + i + 1 ≤ lim := by omega
      have hN5 : 2 * safe_.length + 2 * i + 1 ≤ lim := by omega
      cases hk : decide (o.kind < 1) || decide (4 < o.kind) with
      | true => exact hf _ ⟨⟨_, g1.mono (by omega)⟩, ⟨_, g2.mono (by omega)⟩, ⟨_, g5.mono (by omega)⟩, g3⟩
      | false =>
        simp only [Bool.or_eq_false_iff, decide_eq_false_iff_not] at hk
        have hL : ∀ x : Dk, m_disk_Disk_Loose x = some ((x.loose.length : Nat) : Int) := fun x => rfl
        obtain ⟨m6, a6, b6⟩ := e_does g1 g5 hR hN hR hN5 o
        obtain ⟨m7, _, b7⟩ := e_does1 g1 hR hN o
        rw [bif_f rfl, hL, Option.bind_some, a6, Option.bind_some, hL, Option.bind_some]
        simp only [hop]
        rcases act_cases (d := d3) (o := o) (by omega) (by omega) with hsame | ⟨ch, hch, hdo, hkind⟩
        · rw [hsame, bif_t (by simp)]
          exact hf _ ⟨⟨_, g1.mono (by omega)⟩, ⟨_, g2.mono (by omega)⟩, ⟨_, b6.mono (by omega)⟩, g3⟩
        · rw [hch] at b7 ⊢
          have hne : ((((dDone d3 ch).loose.length : Nat) : Int) == ((d3.loose.length : Nat) : Int)) = false := by rw [beq_eq_false_iff_ne, dDone_len]; omega
          simp only [hne, cond_false]
          have hrm : u2.room = d3.room := by rw [g2.rd, g1.rd]
          rcases Int.lt_trichotomy (max fate0 0) ((d3.loose.length : Nat) : Int) with hlt | heq | hgt
          · -- lost
            have q1 : decide (((d3.loose.length : Nat) : Int) < fate0) = false := by rw [decide_eq_false_iff_not]; omega
            have q2 : ((((d3.loose.length : Nat) : Int) == fate0) || ((((d3.loose.length : Nat) : Int) == 0) && decide (fate0 < 0))) = false := by
              rw [Bool.eq_false_iff]; intro hx
              simp only [Bool.or_eq_true, Bool.and_eq_true, beq_iff_eq, decide_eq_true_eq] at hx
              omega
            rw [q1, q2]
            simp only [Bool.false_and, cond_false]
            exact hf _ ⟨⟨_, b7⟩, ⟨_, g2.mono (by omega)⟩, ⟨_, b6.mono (by omega)⟩, by rw [crash_more hlt]; exact g3⟩
          · -- torn
            have q1 : decide (((d3.loose.length : Nat) : Int) < fate0) = false := by rw [decide_eq_false_iff_not]; omega
            have q2 : ((((d3.loose.length : Nat) : Int) == fate0) || ((((d3.loose.length : Nat) : Int) == 0) && decide (fate0 < 0))) = true := by
              simp only [Bool.or_eq_true, Bool.and_eq_true, beq_iff_eq, decide_eq_true_eq]; omega
            have hus : u2.seen = d3.seen := by rw [g3]; exact crash_all g1.seen (by omega)
            rw [q1, q2]
            simp only [Bool.true_and, cond_false]
            have hct := crash_torn (c := ch) (torn := fate1) g1.seen heq
            rcases hkind with ⟨k1, k2, k3, k4⟩ | ⟨k1, k2⟩
            · cases hcn : ((o.kind == 1) && decide (0 < fate1)) && decide (0 < ((o.data.length : Nat) : Int)) with
              | true =>
                have hpos : 0 < fate1 ∧ 0 < o.data.length := by
                  simp only [Bool.and_eq_true, decide_eq_true_eq] at hcn
                  exact ⟨hcn.1.2, by omega⟩
                have htk : List.take (min fate1 ((o.data.length : Nat) : Int)).toNat o.data = o.data.take fate1.toNat := by rw [List.take_eq_take_iff]; omega
                have hfit : ((o.data.take fate1.toNat).length : Int) ≤ u2.room - (Fw.sz u2.seen : Int) := by rw [hrm, hus, List.length_take]; omega
                obtain ⟨m8, _, b8⟩ := r_App g2 hR hN o.name (o.data.take fate1.toNat)
                rw [bif_t rfl, chk_t (by simp [inle]; omega), htk, e_App g2 hR hN, Option.bind_some]
                rw [dApp_ok k2 hfit] at b8 ⊢
                refine hf _ ⟨⟨_, b7⟩, ⟨_, b8⟩, ⟨_, b6.mono (by omega)⟩, ?_⟩
                show ap (.disk_add_1 o.name (o.data.take fate1.toNat)) u2.seen = _
                rw [hct, k4, bif_t (by simp only [Bool.and_eq_true, decide_eq_true_eq]; exact hpos), hus]
              | false =>
                refine hf _ ⟨⟨_, b7⟩, ⟨_, g2.mono (by omega)⟩, ⟨_, b6.mono (by omega)⟩, ?_⟩
                show u2.seen = _
                rw [hct, k4, bif_f, hus]
                rw [Bool.eq_false_iff]; intro hx
                simp only [Bool.and_eq_true, decide_eq_true_eq] at hx
                rw [Bool.eq_false_iff] at hcn
                refine hcn ?_
                simp only [Bool.and_eq_true, decide_eq_true_eq, beq_iff_eq]
                exact ⟨⟨k1, hx.1⟩, by have := hx.2; omega⟩
            · rw [show (o.kind == 1) = false from beq_eq_false_iff_ne.2 k1]
              simp only [Bool.false_and, cond_false]
              refine hf _ ⟨⟨_, b7⟩, ⟨_, g2.mono (by omega)⟩, ⟨_, b6.mono (by omega)⟩, ?_⟩
              show u2.seen = _
              rw [hct, k2, hus]; simp
          · -- stays
            have q1 : decide (((d3.loose.length : Nat) : Int) < fate0) = true := by rw [decide_eq_true_eq]; omega
            have q2 : ((((d3.loose.length : Nat) : Int) == fate0) || ((((d3.loose.length : Nat) : Int) == 0) && decide (fate0 < 0))) = false := by
              rw [Bool.eq_false_iff]; intro hx
              simp only [Bool.or_eq_true, Bool.and_eq_true, beq_iff_eq, decide_eq_true_eq] at hx
              omega
            have hus : u2.seen = d3.seen := by rw [g3]; exact crash_all g1.seen (by omega)
            obtain ⟨m8, a8, b8⟩ := e_does g2 b6 hR hN hR (by omega) o
            obtain ⟨m9, _, b9⟩ := e_does1 g2 hR hN o
            rw [q1, bif_t rfl, a8, Option.bind_some, q2]
            simp only [Bool.false_and, cond_false]
            rw [hdo u2 hus hrm] at b9 ⊢
            refine hf _ ⟨⟨_, b7⟩, ⟨_, b9⟩, ⟨_, b8.mono (by omega)⟩, ?_⟩
            show ap ch.do_ u2.seen = _
            rw [hus, crash_all b7.seen (by rw [dDone_len]; omega)]; rfl
  · obtain ⟨m, u, d⟩ := s
    obtain ⟨⟨m1, h1⟩, hu, ⟨d2, h2⟩⟩ := hI
    simp only at h1 hu h2
    subst hu
    have hN : i + 1 ≤ lim := by omega
    obtain ⟨m', a, b⟩ := e_does h1 h2 hR hN hR (by omega) (gt safe_ i)
    obtain ⟨m1', _, b1⟩ := e_does1 h1 hR hN (gt safe_ i)
    obtain ⟨m'', a2, b2⟩ := e_does h1 b hR hN hR (by omega) (gt safe_ i)
    unfold m_firthlaw07_DiskCrash_b1
    simp only
    rw [a, Option.bind_some, a2, Option.bind_some]
    exact hf _ ⟨⟨_, b1⟩, rfl, _, b2.mono (by omega)⟩
end Fw
end Go.Proofs.Ytichdipjedoijaa
