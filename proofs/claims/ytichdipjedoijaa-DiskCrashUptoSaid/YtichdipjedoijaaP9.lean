/- Names; DiskPlays. No condition. -/
import Derived.Test.YtichdipjedoijaaP8
namespace Go.Proofs.Ytichdipjedoijaa
namespace Fw
set_option linter.unusedVariables false
set_option linter.unusedSimpArgs false
set_option linter.unusedSectionVars false

/-! ### every file has a name that may be -/
def on (es : Mp) : Prop := ∀ p ∈ es, okn p.1 = true
def cn : Cg → Prop
  | .disk_add_1 n _ => okn n = true
  | .disk_Disk_Rename_1 _ b => okn b = true
  | .disk_Disk_Cut_1 n _ => okn n = true
  | .disk_Disk_Remove_1 _ => True
theorem on_ap {c : Cg} {es : Mp} (h : on es) (hc : cn c) : on (ap c es) := by
  intro p hp
  cases c with
  | disk_add_1 n b => exact (mem_mput hp).elim (fun e => by rw [e]; exact hc) (fun hp => h p hp)
  | disk_Disk_Rename_1 a b => exact (mem_mput hp).elim (fun e => by rw [e]; exact hc) (fun hp => h p (mem_mdel hp))
  | disk_Disk_Cut_1 n k => exact (mem_mput hp).elim (fun e => by rw [e]; exact hc) (fun hp => h p hp)
  | disk_Disk_Remove_1 a => exact h p (mem_mdel hp)
theorem on_run : ∀ {cs : List Dc} {es : Mp}, on es → (∀ c ∈ cs, cn c.do_) → on (run cs es)
  | [], es, h, _ => h
  | c :: cs, es, h, hc => on_run (cs := cs) (on_ap h (hc c List.mem_cons_self)) fun c' h' => hc c' (List.mem_cons_of_mem _ h')
structure Nm (d : Dk) : Prop where
  safe : on d.safe_
  loose : ∀ c ∈ d.loose, cn c.do_
section
variable {R N : Nat} {d : Dk} {m : Md}
theorem Nm.seen (hn : Nm d) (h : Rel R N d m) : on d.seen := by rw [h.seen]; exact on_run hn.safe hn.loose
theorem Nm.done (hn : Nm d) {c : Dc} (hc : cn c.do_) : Nm (dDone d c) := ⟨hn.safe, fun c' h' => by
  rcases List.mem_append.1 h' with h' | h'
  · exact hn.loose c' h'
  · rw [List.mem_singleton.1 h']; exact hc⟩
theorem Nm.crash (hn : Nm d) (h : Rel R N d m) (keep torn : Int) : on (crashM d keep torn) := by
  have h1 : on (run (d.loose.take (cK d keep)) d.safe_) := on_run hn.safe fun c hc => hn.loose c (List.mem_of_mem_take hc)
  unfold crashM
  cases hc : cT d (cK d keep) torn with
  | false => exact h1
  | true =>
    obtain ⟨a1, _, a3, _⟩ := torn_add h hc
    simp only [cond_true]
    refine on_ap h1 ?_
    have := hn.loose (gt d.loose (cK d keep)) (by rw [gt_eq a1]; exact List.getElem_mem a1)
    rw [a3] at this; exact this
theorem Nm.act (hn : Nm d) (h : Rel R N d m) (o : Dfirthlaw07_Op) : Nm (dAct d o).1 := by
  unfold dAct
  cases o.kind == 1 with
  | true =>
    simp only [cond_true]; unfold dApp
    cases hk : okn o.name with
    | false => exact hn
    | true =>
      cases decide (d.room - (sz d.seen : Int) < (o.data.length : Int)) with
      | true => exact hn
      | false => exact hn.done hk
  | false =>
  simp only [cond_false]
  cases o.kind == 2 with
  | true =>
    simp only [cond_true]; unfold dCut
    cases ht : dThere d o.name != 0 with
    | true => exact hn
    | false =>
      cases decide (o.n < 0) || decide (((((mget o.name d.seen).getD []).length : Nat) : Int) < o.n) with
      | true => exact hn
      | false => exact hn.done (there_0 ht).1
  | false =>
  simp only [cond_false]
  cases o.kind == 3 with
  | true =>
    simp only [cond_true]; unfold dRen
    cases hab : okn o.name && okn o.to_ with
    | false => exact hn
    | true =>
      cases ht : dThere d o.name != 0 with
      | true => exact hn
      | false => exact hn.done (Bool.and_eq_true_iff.1 hab).2
  | false =>
  simp only [cond_false]
  cases o.kind == 4 with
  | true =>
    simp only [cond_true]; unfold dRem
    cases ht : dThere d o.name != 0 with
    | true => exact hn
    | false => exact hn.done trivial
  | false =>
  simp only [cond_false]
  cases o.kind == 5 with
  | true => exact ⟨hn.seen h, fun c hc => by cases hc⟩
  | false =>
  simp only [cond_false]
  cases o.kind == 6 with
  | true => exact ⟨hn.crash h o.n o.torn, fun c hc => by cases hc⟩
  | false =>
  simp only [cond_false]
  cases o.kind == 7 with
  | true => exact ⟨fun p hp => (by cases hp), fun c hc => (by cases hc)⟩
  | false => exact hn
end
theorem nm0 (room : Int) : Nm (d0 room) := ⟨fun p hp => (by cases hp), fun c hc => (by cases hc)⟩
theorem op_bk (o : Dfirthlaw07_Op) : 1 ≤ o.bk := by unfold Dfirthlaw07_Op.bk; omega
theorem script_len {l : List Dfirthlaw07_Op} (h : bkL Dfirthlaw07_Op.bk l ≤ 1048576) : l.length ≤ 1048576 := Nat.le_trans (bkL_len op_bk l) h
theorem p_firthlaw07_DiskPlays {Γ : Gh} (room : Int) (hroom : I64 room) {A : Option Addr} {c : Nat} {script : List Dfirthlaw07_Op} (hs : Sl dfirthlaw07_OpT Γ A script) (hc : script.length ≤ c) (hb : bkL Dfirthlaw07_Op.bk script ≤ 1048576) : m_firthlaw07_DiskPlays room script = some true := by
  have hlen := script_len hb
  have hR := rm_le room
  unfold m_firthlaw07_DiskPlays
  rw [e_awake, Option.bind_some, show (!true) = false from rfl, bif_f rfl, e_New, Option.bind_some, e_mNew, Option.bind_some]
  refine forI_run (fun i (s : Md × Dk) => Rel (rm room) i s.2 s.1 ∧ Nm s.2) (fun s hI => ?_) (fun f i s hi hI hf => ?_) ⟨rel0 room, nm0 room⟩
  · obtain ⟨m, d⟩ := s
    obtain ⟨h, hn⟩ := hI
    simp only at h hn ⊢
    rw [e_Read h hR, Option.bind_some]
    cases hm : (mget ByteArray.empty d.seen).isSome with
    | false => rfl
    | true =>
      rw [mget_isSome] at hm
      obtain ⟨p, hp, he⟩ := List.mem_map.1 hm
      have := hn.seen h p hp
      rw [he] at this
      exact absurd this (by decide)
  · obtain ⟨m, d⟩ := s
    obtain ⟨h, hn⟩ := hI
    have hN : i + 1 ≤ lim := by rw [lim_v]; omega
    have hN2 : i + 1 + 1 ≤ lim := by rw [lim_v]; omega
    obtain ⟨m', a, b⟩ := e_does1 h hR hN (gt script i)
    unfold m_firthlaw07_DiskPlays_b4
    simp only
    rw [a, Option.bind_some]
    simp only [Bool.not_true, Bool.not_false, Bool.false_or]
    have hl : m_disk_Disk_Loose (dAct d (gt script i)).1 = some (((dAct d (gt script i)).1.loose.length : Nat) : Int) := rfl
    have hg : ∀ (x : Option Int), gcall true x = x := fun x => rfl
    have hg2 : ∀ (x : Option Bool), gcall true x = x := fun x => rfl
    rw [hl, hg, Option.bind_some]
    have hne : ((((dAct d (gt script i)).1.loose.length : Nat) : Int) != ((m'.todo.length : Nat) : Int)) = false := by rw [b.good.len]; simp
    simp only [hne, Bool.not_false]
    rw [e_used (Nat.le_trans b.sz (MX_lim hR)), hg, Option.bind_some, bif_t rfl, b.used (MX_lim hR) hN2, Option.bind_some]
    have hne2 : (((Fw.sz (dAct d (gt script i)).1.seen : Nat) : Int) != ((Fw.sz (dAct d (gt script i)).1.seen : Nat) : Int)) = false := by simp
    simp only [hne2, Bool.not_false]
    rw [bif_t rfl, e_Files b hR hN2, Option.bind_some, b.files (MX_lim hR) hN2, Option.bind_some, e_Same, hg2, Option.bind_some]
    unfold m_firthlaw07_DiskPlays_j5
    simp only [decide_true, Bool.not_true, cond_false]
    exact hf _ ⟨b, hn.act h _⟩
end Fw
end Go.Proofs.Ytichdipjedoijaa
