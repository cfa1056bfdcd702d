/- DiskRoom. No condition. -/
import Derived.Test.YtichdipjedoijaaP11
namespace Go.Proofs.Ytichdipjedoijaa
namespace Fw
set_option linter.unusedVariables false
set_option linter.unusedSimpArgs false
set_option linter.unusedSectionVars false

theorem p_firthlaw07_DiskRoom {Γ : Gh} (room : Int) (hroom : U16 room) {A : Option Addr} {c : Nat} {script : List Dfirthlaw07_Op} (hs : Sl dfirthlaw07_OpT Γ A script) (hc : script.length ≤ c) (hb : bkL Dfirthlaw07_Op.bk script ≤ 1048576) : m_firthlaw07_DiskRoom room script = some true := by
  have hlen := script_len hb
  have hw : w64 room = room := w64_i (by unfold I64; omega)
  have hrm : (rm room : Int) = room := by unfold rm; omega
  have hR := rm_le room
  have hl := lim_v
  unfold m_firthlaw07_DiskRoom
  rw [e_awake, Option.bind_some, show (!true) = false from rfl, bif_f rfl, hw, e_New, Option.bind_some, e_mNew, Option.bind_some]
  refine forI_run (fun i (s : Md × Dk) => (∃ m1, Rel (rm room) i s.2 m1) ∧ (∃ d2, Rel (rm room) i d2 s.1)) (fun s hI => ?_) (fun f i s hi hI hf => ?_) ⟨⟨_, rel0 room⟩, ⟨_, rel0 room⟩⟩
  · obtain ⟨m, d⟩ := s
    obtain ⟨⟨m1, h1⟩, _⟩ := hI
    simp only at h1 ⊢
    have hN : script.length + 1 ≤ lim := by omega
    have hsz := h1.sz
    have hrd := h1.rd
    have hz : okn ⟨#[122, 122]⟩ = true := by decide
    rw [e_used (Nat.le_trans hsz (MX_lim hR)), Option.bind_some, w64_i (by unfold I64; omega)]
    rw [bif_t (by simp; omega), w64_i (by unfold I64; omega), chk_t (by simp; omega), chk_t (by simp; omega)]
    rw [e_App h1 hR hN, Option.bind_some, dApp_full hz (by rw [List.length_replicate]; omega), bif_t (by rfl), chk_t (by simp; omega), chk_t (by simp; omega)]
    rw [e_App h1 hR hN, Option.bind_some, dApp_ok hz (by rw [List.length_replicate]; omega)]; rfl
  · obtain ⟨m, d⟩ := s
    obtain ⟨⟨m1, h1⟩, ⟨d2, h2⟩⟩ := hI
    simp only at h1 h2
    have hN : i + 1 ≤ lim := by omega
    have hN2 : i + 1 + 1 ≤ lim := by omega
    have hsz := h1.sz
    have hrd := h1.rd
    unfold m_firthlaw07_DiskRoom_b4 m_firthlaw07_DiskRoom_j5
    simp only
    rw [e_Files h1 hR hN, Option.bind_some]
    cases hcd : (((gt script i).kind == 1) && decide (1 ≤ (((gt script i).name.size : Nat) : Int))) && decide ((((gt script i).name.size : Nat) : Int) ≤ 16) with
    | true =>
      simp only [Bool.and_eq_true, decide_eq_true_eq] at hcd
      have hz : okn (gt script i).name = true := by unfold okn; simp; omega
      rw [bif_t rfl, e_used (Nat.le_trans hsz (MX_lim hR)), Option.bind_some, e_App h1 hR hN, Option.bind_some, hw, w64_i (by unfold I64; omega)]
      by_cases hfit : (((gt script i).data.length : Nat) : Int) ≤ d.room - (Fw.sz d.seen : Int)
      · obtain ⟨m', _, b⟩ := r_App h1 hR hN (gt script i).name (gt script i).data
        rw [dApp_ok hz hfit] at b ⊢
        have hfit2 : decide ((((gt script i).data.length : Nat) : Int) ≤ room - ((Fw.sz d.seen : Nat) : Int)) = true := by rw [decide_eq_true_eq]; omega
        rw [hfit2]
        exact hf _ ⟨⟨m', b⟩, ⟨d2, h2.mono (Nat.le_succ _)⟩⟩
      · rw [dApp_full hz (by omega)]
        have hfit2 : decide ((((gt script i).data.length : Nat) : Int) ≤ room - ((Fw.sz d.seen : Nat) : Int)) = false := by rw [decide_eq_false_iff_not]; omega
        rw [hfit2]
        simp only
        rw [bif_t (by decide), e_Files h1 hR hN, Option.bind_some, e_Same, Option.bind_some]
        simp only [decide_true, Bool.not_true, cond_false]
        exact hf _ ⟨⟨m1, h1.mono (Nat.le_succ _)⟩, ⟨d2, h2.mono (Nat.le_succ _)⟩⟩
    | false =>
      obtain ⟨m', a, b⟩ := e_does h1 h2 hR hN hR hN (gt script i)
      obtain ⟨m1', _, b1⟩ := e_does1 h1 hR hN (gt script i)
      have := b1.sz
      rw [bif_f rfl, a, Option.bind_some, e_used (Nat.le_trans b1.sz (MX_lim hR)), Option.bind_some, hw, bif_f (by rw [decide_eq_false_iff_not]; omega)]
      exact hf _ ⟨⟨m1', b1⟩, ⟨_, b⟩⟩
end Fw
end Go.Proofs.Ytichdipjedoijaa
