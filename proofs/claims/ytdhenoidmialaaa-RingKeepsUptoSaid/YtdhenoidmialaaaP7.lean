/- The plain laws of layer 12, in the words of the walks. No condition. -/
import Derived.Test.YtdhenoidmialaaaP6
namespace Go.Proofs.Ytdhenoidmialaaa
namespace Fw
set_option linter.unusedVariables false
set_option linter.unusedSimpArgs false
set_option linter.unusedSectionVars false
theorem p_firthlaw12_RingLists {Γ : Gh} {A : Option Addr} {c : Nat} {members : List Int} (h : Sl intT Γ A members) (hc : members.length ≤ c) (part : Int) (hp : I64 part) (n : Int) (hn : I64 n) (m : bkL bkOne members ≤ 1048576) : m_firthlaw12_RingLists members part n = some true := lists_law h.le part n
theorem p_firthlaw12_RingWhole {Γ : Gh} {A : Option Addr} {c : Nat} {members : List Int} (h : Sl intT Γ A members) (hc : members.length ≤ c) (part : Int) (hp : I64 part) (n : Int) (hn : I64 n) (m : bkL bkOne members ≤ 1048576) : m_firthlaw12_RingWhole members part n = some true := whole_law h.le part n
theorem p_firthlaw12_RingStable {Γ : Gh} {A : Option Addr} {c : Nat} {members : List Int} (h : Sl intT Γ A members) (hc : members.length ≤ c) (gone : Int) (hg : I64 gone) (m : bkL bkOne members ≤ 1048576) : m_firthlaw12_RingStable members gone = some true := stable_law h.le gone
theorem p_firthlaw12_RingOwns {Γ : Gh} {A : Option Addr} {c : Nat} {old : List Int} (h : Sl intT Γ A old) (hc : old.length ≤ c) {B : Option Addr} {d : Nat} {fresh : List Int} (hf : Sl intT Γ B fresh) (hfc : fresh.length ≤ d) (n : Int) (hn : I64 n) (m : bkL bkOne old ≤ 1048576) (m2 : bkL bkOne fresh ≤ 1048576) : m_firthlaw12_RingOwns old fresh n = some true := owns_law h.le hf.le n
end Fw
end Go.Proofs.Ytdhenoidmialaaa
