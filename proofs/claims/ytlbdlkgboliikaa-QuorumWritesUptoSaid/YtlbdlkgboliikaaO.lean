/- The objects of the program, as Lean structures, and what they are in memory. No condition. -/
import Derived.Test.YtlbdlkgboliikaaM1
import Derived.Test.YtlbdlkgboliikaaL12
namespace Go.Proofs.Ytlbdlkgboliikaa
namespace Fw
set_option linter.unusedVariables false
set_option linter.unusedSimpArgs false
open Go.RowKit

structure AskB where
  list : (List Int)
  need : Int
  got : (List (Int × Bool))
  deriving Inhabited
def AskB.ob (e : TypeId) (X : Nat → Prop) (w : World) (g : Nat) (row : Rowb) (x : AskB) : Prop := ∃ (A0 : Option Addr) (c0 : Nat) (m2 : Nat) (r2 : Rowb), row = ([[(g, .cells #[.slice A0 x.list.length c0, .int .i64 x.need, .map (some m2)] e (0, 0))], r2] : List Rowb).flatten ∧ Sl intT X w A0 x.list ∧ x.list.length ≤ c0 ∧ I64 x.need ∧ MapO (intK Try.underlying3) boolT.v X w r2 m2 x.got ∧ True
theorem AskB.ob.step {e : TypeId} {X X' : Nat → Prop} {w w' : World} {g : Nat} {row : Rowb} {x : AskB} (h : AskB.ob e X w g row x) (hs : St X w X' w') : AskB.ob e X' w' g row x := by
  obtain ⟨A0, c0, m2, r2, hr, h0, h1, h2, h3, _⟩ := h
  exact ⟨A0, c0, m2, r2, hr, h0.step hs, h1, h2, h3.step hs, trivial⟩
structure AskV where
  list : (List Int)
  need : Int
  got : (List (Int × (List Ver)))
  deriving Inhabited
def AskV.ob (e : TypeId) (X : Nat → Prop) (w : World) (g : Nat) (row : Rowb) (x : AskV) : Prop := ∃ (A0 : Option Addr) (c0 : Nat) (m2 : Nat) (r2 : Rowb), row = ([[(g, .cells #[.slice A0 x.list.length c0, .int .i64 x.need, .map (some m2)] e (0, 0))], r2] : List Rowb).flatten ∧ Sl intT X w A0 x.list ∧ x.list.length ≤ c0 ∧ I64 x.need ∧ MapO (intK Try.underlying3) (slT verT).v X w r2 m2 x.got ∧ True
theorem AskV.ob.step {e : TypeId} {X X' : Nat → Prop} {w w' : World} {g : Nat} {row : Rowb} {x : AskV} (h : AskV.ob e X w g row x) (hs : St X w X' w') : AskV.ob e X' w' g row x := by
  obtain ⟨A0, c0, m2, r2, hr, h0, h1, h2, h3, _⟩ := h
  exact ⟨A0, c0, m2, r2, hr, h0.step hs, h1, h2, h3.step hs, trivial⟩
structure Ask16 where
  list : (List Int)
  need : Int
  isin : (List Bool)
  vers : (List (List Ver))
  recs : (List (List Rec))
  deriving Inhabited
def Ask16.ob (e : TypeId) (X : Nat → Prop) (w : World) (g : Nat) (row : Rowb) (x : Ask16) : Prop := ∃ (A0 : Option Addr) (c0 : Nat) (A2 : Option Addr) (c2 : Nat) (r2 : Rowb) (A3 : Option Addr) (c3 : Nat) (r3 : Rowb) (A4 : Option Addr) (c4 : Nat) (r4 : Rowb), row = ([[(g, .cells #[.slice A0 x.list.length c0, .int .i64 x.need, .slice A2 x.isin.length c2, .slice A3 x.vers.length c3, .slice A4 x.recs.length c4] e (0, 0))], r2, r3, r4] : List Rowb).flatten ∧ Sl intT X w A0 x.list ∧ x.list.length ≤ c0 ∧ I64 x.need ∧ Own boolT X w 4 r2 A2 c2 x.isin ∧ Own (slT verT) X w 40 r3 A3 c3 x.vers ∧ Own (slT recT) X w 41 r4 A4 c4 x.recs ∧ x.isin.length = x.list.length ∧ x.vers.length = x.list.length ∧ True
theorem Ask16.ob.step {e : TypeId} {X X' : Nat → Prop} {w w' : World} {g : Nat} {row : Rowb} {x : Ask16} (h : Ask16.ob e X w g row x) (hs : St X w X' w') : Ask16.ob e X' w' g row x := by
  obtain ⟨A0, c0, A2, c2, r2, A3, c3, r3, A4, c4, r4, hr, h0, h1, h2, h3, h4, h5, h6, h7, _⟩ := h
  exact ⟨A0, c0, A2, c2, r2, A3, c3, r3, A4, c4, r4, hr, h0.step hs, h1, h2, h3.step hs, h4.step hs, h5.step hs, h6, h7, trivial⟩
end Fw
end Go.Proofs.Ytlbdlkgboliikaa
