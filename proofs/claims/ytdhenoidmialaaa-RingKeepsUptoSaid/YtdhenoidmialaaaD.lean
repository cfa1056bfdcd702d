/- The data types of the program, as Lean structures, and what they are in memory. No condition. -/
import Derived.Test.YtdhenoidmialaaaK10
namespace Go.Proofs.Ytdhenoidmialaaa
namespace Fw
set_option linter.unusedVariables false
set_option linter.unusedSimpArgs false
set_option linter.unusedSectionVars false
open Go.RowKit
structure Druntime_boundsError where
  x_ : Int
  y : Int
  signed : Bool
  code : UInt8
  deriving Inhabited, DecidableEq
def Druntime_boundsError.bk (v : Druntime_boundsError) : Nat := 1 + bkOne v.x_ + bkOne v.y + bkOne v.signed + bkOne v.code
abbrev Druntime_boundsError.fits (Γ : Gh)  (x : Druntime_boundsError) : Prop := I64 x.x_ ∧ I64 x.y
abbrev Druntime_boundsError.cs  (x : Druntime_boundsError) : List Value := [.int .i64 x.x_, .int .i64 x.y, .bool x.signed, .int .u8 ((x.code.toNat : Nat) : Int)]
theorem Druntime_boundsError.fits_mono {Γ Δ : Gh}  {x : Druntime_boundsError} (h : Druntime_boundsError.fits Γ  x) (hs : Γ.le Δ) : Druntime_boundsError.fits Δ  x := by
  exact h
def druntime_boundsErrorT : Ty Druntime_boundsError where
  n := 4
  pos := by decide
  rd := fun Γ cs x => cs = Druntime_boundsError.cs  x ∧ Druntime_boundsError.fits Γ  x
  len := by rintro Γ cs x ⟨rfl, h⟩; rfl
  one := by rintro Γ cs x ⟨rfl, h⟩ u hu; simp only [Druntime_boundsError.cs, List.mem_cons, List.not_mem_nil, or_false] at hu; rcases hu with rfl | rfl | rfl | rfl <;> rfl
  mono := by rintro Γ Δ cs x ⟨rfl, h⟩ hs; exact ⟨rfl, Druntime_boundsError.fits_mono h hs⟩
theorem Sl.druntime_boundsErrorT_at {Γ : Gh} {A : Option Addr} {xs : List Druntime_boundsError} {i : Nat} (h : Sl druntime_boundsErrorT Γ A xs) (hi : i < xs.length) : Druntime_boundsError.fits Γ (gt xs i) ∧ Cells Γ A (i * 4) (Druntime_boundsError.cs (gt xs i)) := by
  obtain ⟨cs, ⟨rfl, h1⟩, h2⟩ := h.get i hi
  exact ⟨h1, h2⟩
theorem Own.druntime_boundsErrorT_at {Γ : Gh} {A : Option Addr} {xs : List Druntime_boundsError} {e c : Nat} {row : Rowb} {i : Nat} (h : Own druntime_boundsErrorT Γ e row A c xs) (hi : i < xs.length) : Druntime_boundsError.fits Γ (gt xs i) ∧ OCells row A (i * 4) (Druntime_boundsError.cs (gt xs i)) := by
  obtain ⟨cs, ⟨rfl, h1⟩, h2⟩ := h.get hi
  exact ⟨h1, h2⟩
structure Druntime_errorAddressString where
  msg : ByteArray
  addr : Int
  deriving Inhabited, DecidableEq
def Druntime_errorAddressString.bk (v : Druntime_errorAddressString) : Nat := 1 + bkStr v.msg + bkOne v.addr
abbrev Druntime_errorAddressString.fits (Γ : Gh)  (x : Druntime_errorAddressString) : Prop := x.msg.size ≤ lim ∧ U64 x.addr
abbrev Druntime_errorAddressString.cs  (x : Druntime_errorAddressString) : List Value := [.string x.msg, .int .u64 x.addr]
theorem Druntime_errorAddressString.fits_mono {Γ Δ : Gh}  {x : Druntime_errorAddressString} (h : Druntime_errorAddressString.fits Γ  x) (hs : Γ.le Δ) : Druntime_errorAddressString.fits Δ  x := by
  exact h
def druntime_errorAddressStringT : Ty Druntime_errorAddressString where
  n := 2
  pos := by decide
  rd := fun Γ cs x => cs = Druntime_errorAddressString.cs  x ∧ Druntime_errorAddressString.fits Γ  x
  len := by rintro Γ cs x ⟨rfl, h⟩; rfl
  one := by rintro Γ cs x ⟨rfl, h⟩ u hu; simp only [Druntime_errorAddressString.cs, List.mem_cons, List.not_mem_nil, or_false] at hu; rcases hu with rfl | rfl <;> rfl
  mono := by rintro Γ Δ cs x ⟨rfl, h⟩ hs; exact ⟨rfl, Druntime_errorAddressString.fits_mono h hs⟩
theorem Sl.druntime_errorAddressStringT_at {Γ : Gh} {A : Option Addr} {xs : List Druntime_errorAddressString} {i : Nat} (h : Sl druntime_errorAddressStringT Γ A xs) (hi : i < xs.length) : Druntime_errorAddressString.fits Γ (gt xs i) ∧ Cells Γ A (i * 2) (Druntime_errorAddressString.cs (gt xs i)) := by
  obtain ⟨cs, ⟨rfl, h1⟩, h2⟩ := h.get i hi
  exact ⟨h1, h2⟩
theorem Own.druntime_errorAddressStringT_at {Γ : Gh} {A : Option Addr} {xs : List Druntime_errorAddressString} {e c : Nat} {row : Rowb} {i : Nat} (h : Own druntime_errorAddressStringT Γ e row A c xs) (hi : i < xs.length) : Druntime_errorAddressString.fits Γ (gt xs i) ∧ OCells row A (i * 2) (Druntime_errorAddressString.cs (gt xs i)) := by
  obtain ⟨cs, ⟨rfl, h1⟩, h2⟩ := h.get hi
  exact ⟨h1, h2⟩
structure Dring_Move where
  part : Int
  old : (List Int)
  new : (List Int)
  deriving Inhabited, DecidableEq
def Dring_Move.bk (v : Dring_Move) : Nat := 1 + bkOne v.part + (bkL bkOne) v.old + (bkL bkOne) v.new
abbrev Dring_Move.fits (Γ : Gh) (A1 : Option Addr) (c1 : Nat) (A2 : Option Addr) (c2 : Nat) (x : Dring_Move) : Prop := I64 x.part ∧ (x.old.length ≤ c1 ∧ Sl intT Γ A1 x.old) ∧ (x.new.length ≤ c2 ∧ Sl intT Γ A2 x.new)
abbrev Dring_Move.cs (A1 : Option Addr) (c1 : Nat) (A2 : Option Addr) (c2 : Nat) (x : Dring_Move) : List Value := [.int .i64 x.part, .slice A1 x.old.length c1, .slice A2 x.new.length c2]
theorem Dring_Move.fits_mono {Γ Δ : Gh} {A1 : Option Addr} {c1 : Nat} {A2 : Option Addr} {c2 : Nat} {x : Dring_Move} (h : Dring_Move.fits Γ A1 c1 A2 c2 x) (hs : Γ.le Δ) : Dring_Move.fits Δ A1 c1 A2 c2 x := by
  obtain ⟨h0, h1, h2⟩ := h
  exact ⟨h0, ⟨h1.1, h1.2.mono hs⟩, ⟨h2.1, h2.2.mono hs⟩⟩
def dring_MoveT : Ty Dring_Move where
  n := 3
  pos := by decide
  rd := fun Γ cs x => ∃ A1 c1 A2 c2, cs = Dring_Move.cs A1 c1 A2 c2 x ∧ Dring_Move.fits Γ A1 c1 A2 c2 x
  len := by rintro Γ cs x ⟨A1, c1, A2, c2, rfl, h⟩; rfl
  one := by rintro Γ cs x ⟨A1, c1, A2, c2, rfl, h⟩ u hu; simp only [Dring_Move.cs, List.mem_cons, List.not_mem_nil, or_false] at hu; rcases hu with rfl | rfl | rfl <;> rfl
  mono := by rintro Γ Δ cs x ⟨A1, c1, A2, c2, rfl, h⟩ hs; exact ⟨A1, c1, A2, c2, rfl, Dring_Move.fits_mono h hs⟩
theorem Sl.dring_MoveT_at {Γ : Gh} {A : Option Addr} {xs : List Dring_Move} (h : Sl dring_MoveT Γ A xs) (i : Nat) : ∃ A1 c1 A2 c2, i < xs.length → Dring_Move.fits Γ A1 c1 A2 c2 (gt xs i) ∧ Cells Γ A (i * 3) (Dring_Move.cs A1 c1 A2 c2 (gt xs i)) := by
  by_cases hi : i < xs.length
  · obtain ⟨cs, ⟨A1, c1, A2, c2, rfl, h⟩, h2⟩ := h.get i hi
    exact ⟨A1, c1, A2, c2, fun _ => ⟨h, h2⟩⟩
  · exact ⟨none, 0, none, 0, fun h => absurd h hi⟩
theorem Own.dring_MoveT_at {Γ : Gh} {A : Option Addr} {xs : List Dring_Move} {e c : Nat} {row : Rowb} (h : Own dring_MoveT Γ e row A c xs) (i : Nat) : ∃ A1 c1 A2 c2, i < xs.length → Dring_Move.fits Γ A1 c1 A2 c2 (gt xs i) ∧ OCells row A (i * 3) (Dring_Move.cs A1 c1 A2 c2 (gt xs i)) := by
  by_cases hi : i < xs.length
  · obtain ⟨cs, ⟨A1, c1, A2, c2, rfl, h⟩, h2⟩ := h.get hi
    exact ⟨A1, c1, A2, c2, fun _ => ⟨h, h2⟩⟩
  · exact ⟨none, 0, none, 0, fun h => absurd h hi⟩
structure Dring_point where
  at_ : Int
  node : Int
  deriving Inhabited, DecidableEq
def Dring_point.bk (v : Dring_point) : Nat := 1 + bkOne v.at_ + bkOne v.node
abbrev Dring_point.fits (Γ : Gh)  (x : Dring_point) : Prop := U64 x.at_ ∧ I64 x.node
abbrev Dring_point.cs  (x : Dring_point) : List Value := [.int .u64 x.at_, .int .i64 x.node]
theorem Dring_point.fits_mono {Γ Δ : Gh}  {x : Dring_point} (h : Dring_point.fits Γ  x) (hs : Γ.le Δ) : Dring_point.fits Δ  x := by
  exact h
def dring_pointT : Ty Dring_point where
  n := 2
  pos := by decide
  rd := fun Γ cs x => cs = Dring_point.cs  x ∧ Dring_point.fits Γ  x
  len := by rintro Γ cs x ⟨rfl, h⟩; rfl
  one := by rintro Γ cs x ⟨rfl, h⟩ u hu; simp only [Dring_point.cs, List.mem_cons, List.not_mem_nil, or_false] at hu; rcases hu with rfl | rfl <;> rfl
  mono := by rintro Γ Δ cs x ⟨rfl, h⟩ hs; exact ⟨rfl, Dring_point.fits_mono h hs⟩
theorem Sl.dring_pointT_at {Γ : Gh} {A : Option Addr} {xs : List Dring_point} {i : Nat} (h : Sl dring_pointT Γ A xs) (hi : i < xs.length) : Dring_point.fits Γ (gt xs i) ∧ Cells Γ A (i * 2) (Dring_point.cs (gt xs i)) := by
  obtain ⟨cs, ⟨rfl, h1⟩, h2⟩ := h.get i hi
  exact ⟨h1, h2⟩
theorem Own.dring_pointT_at {Γ : Gh} {A : Option Addr} {xs : List Dring_point} {e c : Nat} {row : Rowb} {i : Nat} (h : Own dring_pointT Γ e row A c xs) (hi : i < xs.length) : Dring_point.fits Γ (gt xs i) ∧ OCells row A (i * 2) (Dring_point.cs (gt xs i)) := by
  obtain ⟨cs, ⟨rfl, h1⟩, h2⟩ := h.get hi
  exact ⟨h1, h2⟩
end Fw
end Go.Proofs.Ytdhenoidmialaaa
