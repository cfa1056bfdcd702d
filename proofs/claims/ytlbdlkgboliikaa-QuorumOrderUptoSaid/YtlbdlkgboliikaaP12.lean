/- The plain law QuorumMeets, its loops. No condition. -/
import Derived.Test.YtlbdlkgboliikaaP11
namespace Go.Proofs.Ytlbdlkgboliikaa
namespace Fw
set_option linter.unusedVariables false
set_option linter.unusedSimpArgs false
set_option linter.unusedSectionVars false

theorem inb9 {k : Nat} (h : k < 9) : inb ((k : Nat) : Int) 9 = true := inb_nat h
theorem inb9i {x : Int} (h1 : 1 ≤ x) (h : x ≤ 8) : inb x 9 = true := by unfold inb; rw [Bool.and_eq_true, decide_eq_true_eq, decide_eq_true_eq]; omega
section
variable {U : List Ver} (hU : Made U) (hn : U.length ≤ 512) (hUok : ∀ v ∈ U, VerOk v) {v : Ver} (hov : Of U [v]) {N : Nat} (h8 : N ≤ 8)
include hU hn hUok h8
/-- behind what is put into those behind, all that answered hold the same -/
theorem meets_tail {m : Dfirthlaw16_Meet} (hm : m.n = (N : Int)) {need : Int} {held : List (List Ver)} {x : AskV} (hh : ∀ j, Of U (gt held j)) (h : AskedI (upN N) need held x) (hv : VersOk (AskV.vers x)) :
    loopN (m_firthlaw16_QuorumMeets_b27 m held (AskV.vers x) (AskV.behind x) (AskV.waits x)) FU 1 = some true := by
  refine loopN_inv (fun _ => some true) (fun s => ∃ k : Nat, s = ((k + 1 : Nat) : Int) ∧ k ≤ N) (fun s => N + 1 - s.toNat) (fun f s hs hf => ?_) ⟨0, rfl, Nat.zero_le _⟩ (by unfold FU; omega)
  obtain ⟨k, rfl, hk⟩ := hs
  unfold m_firthlaw16_QuorumMeets_b27 m_firthlaw16_QuorumMeets_j28
  rw [hm]
  by_cases hkN : k < N
  · have hx1 : ((k + 1 : Nat) : Int) ∈ upN N := upN_mem.2 ⟨by omega, by omega⟩
    rw [show decide (((k + 1 : Nat) : Int) ≤ (N : Int)) = true by rw [decide_eq_true_eq]; omega, cond_true, w64_s (by omega)]
    have hnext : f ((k + 1 + 1 : Nat) : Int) = some true := hf _ ⟨k + 1, rfl, by omega⟩ (by omega)
    rw [e_In, Option.bind_some]
    cases hw : inM (AskV.waits x) ((k + 1 : Nat) : Int) with
    | true => exact hnext
    | false =>
      have hgot : (mget ((k + 1 : Nat) : Int) x.got).isSome = true := by
        cases hg : (mget ((k + 1 : Nat) : Int) x.got).isSome with
        | true => rfl
        | false =>
          have : ((k + 1 : Nat) : Int) ∈ AskV.waits x := by
            rw [show AskV.waits x = x.list.filter (fun n => !(mget n x.got).isSome) from sel_filter x.list (fun n => !(mget n x.got).isSome), h.l, List.mem_filter]
            exact ⟨hx1, by rw [hg]; rfl⟩
          rw [inM_mem.2 this] at hw; cases hw
      obtain ⟨_, hgd, _, hmg⟩ := h.put hU hn hh hgot
      rw [cond_false, chk_t (inb9 (by omega)), e_r5Merge (of_ok hUok (hh _)) hv, Option.bind_some, e_In, Option.bind_some, e_r5Same, Option.bind_some, e_r5Same, gcall_s, Option.bind_some]
      rw [hmg, r5Same_iff.2 rfl]
      have hb : inM (AskV.behind x) ((k + 1 : Nat) : Int) = !(r5Same (gt held ((k + 1 : Nat) : Int).toNat) (AskV.vers x)) := by
        rw [show AskV.behind x = x.list.filter (fun n => (mget n x.got).isSome && vsLacks ((mget n x.got).getD []) x.vers) from sel_filter x.list (fun n => (mget n x.got).isSome && vsLacks ((mget n x.got).getD []) x.vers)]
        rw [Bool.eq_iff_iff, inM_mem, List.mem_filter, hgot, hgd, lacks_eq, h.l]
        unfold r5Lacks
        rw [hmg]
        simp only [hx1, true_and, Bool.true_and, beq_self_eq_true, Bool.not_eq_true']
        have e : r5Same (AskV.vers x) (gt held ((k + 1 : Nat) : Int).toNat) = r5Same (gt held ((k + 1 : Nat) : Int).toNat) (AskV.vers x) := by
          rw [Bool.eq_iff_iff, r5Same_iff, r5Same_iff]; exact eq_comm
        rw [e]
      rw [hb]
      cases r5Same (gt held ((k + 1 : Nat) : Int).toNat) (AskV.vers x) <;> exact hnext
  · rw [show decide (((k + 1 : Nat) : Int) ≤ (N : Int)) = false by rw [decide_eq_false_iff_not]; omega]; rfl
end
end Fw
end Go.Proofs.Ytlbdlkgboliikaa
