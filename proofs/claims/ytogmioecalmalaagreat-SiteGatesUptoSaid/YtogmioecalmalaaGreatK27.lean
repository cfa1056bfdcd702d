/- What is lent: a ghost that a call reads and does not keep. No condition. -/
import Derived.Test.YtogmioecalmalaaGreatK11
namespace Go.Proofs.YtogmioecalmalaaGreat
namespace Fw
set_option linter.unusedVariables false
set_option linter.unusedSimpArgs false
set_option linter.unusedSectionVars false
open Go.RowKit
section
variable {P : Program} {N : FN} {F : Fm} {Γ Δ B : Gh} {L U : List Rowb} {C : World → Prop} {Q : Exit → Env → World → Prop} {σ : Env} {w : World} {ops : Array Oper} {o : Oper} {rest : List Oper}
structure Lent (F : Fm) (B : Gh) : Prop where
 old : Sat B F.E
 out : ∀ b o, B b = some o → ¬ F.S b
theorem Lent.start {E : World} {G : Gh} (h : Pre U B E) : Lent ⟨ids U, E, G⟩ B :=
 ⟨h.sat, fun b o hb ⟨r, hr, p, hp, he⟩ => by have := h.out r hr p hp; rw [he, hb] at this; cases this⟩
theorem Lent.start0 {E : World} {G : Gh} (h : Sat B E) : Lent ⟨no, E, G⟩ B := ⟨h, fun b o hb hn => hn⟩
theorem Lent.nil (F : Fm) : Lent F (fun _ => none) := ⟨(fun b o hb => by cases hb), (fun b o hb => by cases hb)⟩
theorem Lent.sat (h : Lent F B) (hw : Cur F Γ L w) : Sat B w := fun b o hb => by
 have h1 := h.old b o hb
 rw [hw.fr.keep b (bP h1) (h.out b o hb)]; exact h1
theorem Lent.sep (h : Lent F B) (hw : Cur F Γ L w) : ∀ r ∈ L, ∀ p ∈ r, B p.1 = none := fun r hr p hp => by
 cases hb : B p.1 with
 | none => rfl
 | some o =>
  exfalso
  rcases hw.sep r hr p hp with h1 | h1
  ·exact h.out _ _ hb h1
  ·have := bP (h.old _ _ hb); omega
noncomputable def Gh.but (U : List Rowb) (w : World) : Gh := fun b => open Classical in if ids U b then none else w.heap[b]?
def Gh.nil : Gh := fun _ => none
end
end Fw
end Go.Proofs.YtogmioecalmalaaGreat
