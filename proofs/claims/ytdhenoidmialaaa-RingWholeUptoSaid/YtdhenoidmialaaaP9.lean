/- The plain law RingKeeps. No condition. -/
import Derived.Test.YtdhenoidmialaaaP8
namespace Go.Proofs.Ytdhenoidmialaaa
namespace Fw
set_option linter.unusedVariables false
set_option linter.unusedSimpArgs false
set_option linter.unusedSectionVars false

theorem keeps_law {ms : List Int} (hl : ms.length ≤ lim) (part n : Int) : m_firthlaw12_RingKeeps ms part n = some true := by
  unfold m_firthlaw12_RingKeeps
  rw [e_awake, Option.bind_some]
  show chk (decide (0 + ms.length ≤ lim)) _ = some true
  rw [chk_t (by rw [decide_eq_true_eq]; omega), e_List hl, e_Rest hl, Option.bind_some, Option.bind_some]
  refine forU_inv (fun _ _ => some true) (fun _ _ => True) (fun _ _ => ?_) (fun f i s hi _ hf => hf _ trivial) trivial
  refine forU_inv (fun _ _ => some true) (fun _ _ => True) (fun _ _ => ?_) (fun f i s hi _ hf => hf _ trivial) trivial
  rw [e_Ints, e_rList hl, Option.bind_some, decide_eq_true rfl, cond_true, Option.bind_some, Option.bind_some, e_Ints, Option.bind_some, decide_eq_true rfl]
theorem p_firthlaw12_RingKeeps {Γ : Gh} {A : Option Addr} {c : Nat} {members : List Int} (h : Sl intT Γ A members) (hc : members.length ≤ c) (part : Int) (hp : I64 part) (n : Int) (hn : I64 n) (m : bkL bkOne members ≤ 1048576) : m_firthlaw12_RingKeeps members part n = some true := keeps_law h.le part n
end Fw
end Go.Proofs.Ytdhenoidmialaaa
