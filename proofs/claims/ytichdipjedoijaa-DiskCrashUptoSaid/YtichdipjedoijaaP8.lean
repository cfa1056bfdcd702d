/- One act of both; the answers that are fixed. No condition. -/
import Derived.Test.YtichdipjedoijaaP7
namespace Go.Proofs.Ytichdipjedoijaa
namespace Fw
set_option linter.unusedVariables false
set_option linter.unusedSimpArgs false
set_option linter.unusedSectionVars false

theorem e_awake : m_firthlaw07_awake = some true := by decide +kernel
/-- one act: the disk behind it, and what was answered -/
def dAct (d : Dk) (o : Dfirthlaw07_Op) : Dk × Int :=
  bif o.kind == 1 then dApp d o.name o.data else bif o.kind == 2 then dCut d o.name o.n else bif o.kind == 3 then dRen d o.name o.to_ else bif o.kind == 4 then dRem d o.name
  else bif o.kind == 5 then (dSync d, 0) else bif o.kind == 6 then (dCrash d o.n o.torn, 0) else bif o.kind == 7 then (dWipe d, 0) else (d, 0)
section
variable {R N : Nat} {d : Dk} {m : Md}
/-- of a disk that has its document's, and a document's that has its disk -/
theorem e_does {R' N' : Nat} {m1 : Md} {d2 : Dk} (h1 : Rel R N d m1) (h2 : Rel R' N' d2 m) (hR : R ≤ MX) (hN : N + 1 ≤ lim) (hR' : R' ≤ MX) (hN' : N' + 1 ≤ lim) (o : Dfirthlaw07_Op) :
    ∃ m', m_firthlaw07_does d m o = some ((dAct d o).1, m', (dAct d o).2 == (dAct d2 o).2) ∧ Rel R' (N' + 1) (dAct d2 o).1 m' := by
  unfold m_firthlaw07_does dAct
  cases o.kind == 1 with
  | true =>
    obtain ⟨m', a, b⟩ := r_App h2 hR' hN' o.name o.data
    simp only [cond_true]
    rw [e_App h1 hR hN, Option.bind_some, a, Option.bind_some]
    exact ⟨m', rfl, b⟩
  | false =>
  simp only [cond_false]
  cases o.kind == 2 with
  | true =>
    obtain ⟨m', a, b⟩ := r_Cut h2 hR' hN' o.name o.n
    simp only [cond_true]
    rw [e_Cut h1 hR hN, Option.bind_some, a, Option.bind_some]
    exact ⟨m', rfl, b⟩
  | false =>
  simp only [cond_false]
  cases o.kind == 3 with
  | true =>
    obtain ⟨m', a, b⟩ := r_Ren h2 hR' hN' o.name o.to_
    simp only [cond_true]
    rw [e_Ren h1 hR hN, Option.bind_some, a, Option.bind_some]
    exact ⟨m', rfl, b⟩
  | false =>
  simp only [cond_false]
  cases o.kind == 4 with
  | true =>
    obtain ⟨m', a, b⟩ := r_Rem h2 hR' hN' o.name
    simp only [cond_true]
    rw [e_Rem h1 hR hN, Option.bind_some, a, Option.bind_some]
    exact ⟨m', rfl, b⟩
  | false =>
  simp only [cond_false]
  cases o.kind == 5 with
  | true =>
    obtain ⟨m', a, b⟩ := r_Sync h2 hR' hN'
    simp only [cond_true]
    rw [e_Sync, Option.bind_some, a, Option.bind_some]
    exact ⟨m', rfl, b.mono (Nat.le_succ _)⟩
  | false =>
  simp only [cond_false]
  cases o.kind == 6 with
  | true =>
    obtain ⟨m', a, b⟩ := r_Crash h2 hR' hN' o.n o.torn
    simp only [cond_true]
    rw [e_Crash h1 hR hN, Option.bind_some, a, Option.bind_some]
    exact ⟨m', rfl, b.mono (Nat.le_succ _)⟩
  | false =>
  simp only [cond_false]
  cases o.kind == 7 with
  | true =>
    obtain ⟨m', a, b⟩ := r_Wipe h2
    simp only [cond_true]
    rw [e_Wipe, Option.bind_some, a, Option.bind_some]
    exact ⟨m', rfl, b.mono (Nat.le_succ _)⟩
  | false => exact ⟨m, rfl, h2.mono (Nat.le_succ _)⟩
theorem e_does1 (h : Rel R N d m) (hR : R ≤ MX) (hN : N + 1 ≤ lim) (o : Dfirthlaw07_Op) : ∃ m', m_firthlaw07_does d m o = some ((dAct d o).1, m', true) ∧ Rel R (N + 1) (dAct d o).1 m' := by
  obtain ⟨m', a, b⟩ := e_does h h hR hN hR hN o
  exact ⟨m', by rw [a]; simp, b⟩
end
/-- a room as it is kept -/
def rm (room : Int) : Nat := (min (max room 0) 1073741824).toNat
theorem rm_le (room : Int) : rm room ≤ MX := by unfold rm MX; omega
def d0 (room : Int) : Dk := ⟨(rm room : Int), [], [], []⟩
def m0 (room : Int) : Md := ⟨(rm room : Int), [], []⟩
theorem e_New (room : Int) : m_disk_New room = some (d0 room) := by
  unfold m_disk_New d0 rm
  rw [show (((min (max room 0) 1073741824).toNat : Nat) : Int) = min (max room 0) 1073741824 by omega]
theorem e_mNew (room : Int) : m_firthref07_New room = some (m0 room) := by
  unfold m_firthref07_New m_firthref07_New_j1 m_firthref07_New_j2 m0 rm
  by_cases h : room < 0
  · rw [bif_t (by simpa using h), bif_f (by decide)]
    rw [show (((min (max room 0) 1073741824).toNat : Nat) : Int) = 0 by omega]
  · rw [bif_f (by simpa using h)]
    by_cases h2 : 1073741824 < room
    · rw [bif_t (by simpa using h2), show (((min (max room 0) 1073741824).toNat : Nat) : Int) = 1073741824 by omega]
    · rw [bif_f (by simpa using h2), show (((min (max room 0) 1073741824).toNat : Nat) : Int) = room by omega]
theorem rel0 (room : Int) : Rel (rm room) 0 (d0 room) (m0 room) := ⟨rfl, rfl, rfl, FM_nil.symm, Good.nil NK.nil (Nat.zero_le _) (Nat.zero_le _), Nat.zero_le _⟩
end Fw
end Go.Proofs.Ytichdipjedoijaa
