/- The data types of the program, as Lean structures, and what they are in memory. No condition. -/
import Derived.Test.YtogcoieekhbfdaaK10
namespace Go.Proofs.Ytogcoieekhbfdaa
namespace Fw
set_option linter.unusedVariables false
set_option linter.unusedSimpArgs false
set_option linter.unusedSectionVars false
open Go.RowKit
structure Druntime_boundsError where
  x_ : Int
  y : Int
  signed : Bool
  code : UInt8
  deriving Inhabited, DecidableEq
def Druntime_boundsError.bk (v : Druntime_boundsError) : Nat := 1 + bkOne v.x_ + bkOne v.y + bkOne v.signed + bkOne v.code
abbrev Druntime_boundsError.fits (Γ : Gh)  (x : Druntime_boundsError) : Prop := I64 x.x_ ∧ I64 x.y
abbrev Druntime_boundsError.cs  (x : Druntime_boundsError) : List Value := [.int .i64 x.x_, .int .i64 x.y, .bool x.signed, .int .u8 ((x.code.toNat : Nat) : Int)]
theorem Druntime_boundsError.fits_mono {Γ Δ : Gh}  {x : Druntime_boundsError} (h : Druntime_boundsError.fits Γ  x) (hs : Γ.le Δ) : Druntime_boundsError.fits Δ  x := by
  exact h
def druntime_boundsErrorT : Ty Druntime_boundsError where
  n := 4
  pos := by decide
  rd := fun Γ cs x => cs = Druntime_boundsError.cs  x ∧ Druntime_boundsError.fits Γ  x
  len := by rintro Γ cs x ⟨rfl, h⟩; rfl
  one := by rintro Γ cs x ⟨rfl, h⟩ u hu; simp only [Druntime_boundsError.cs, List.mem_cons, List.not_mem_nil, or_false] at hu; rcases hu with rfl | rfl | rfl | rfl <;> rfl
  mono := by rintro Γ Δ cs x ⟨rfl, h⟩ hs; exact ⟨rfl, Druntime_boundsError.fits_mono h hs⟩
theorem Sl.druntime_boundsErrorT_at {Γ : Gh} {A : Option Addr} {xs : List Druntime_boundsError} {i : Nat} (h : Sl druntime_boundsErrorT Γ A xs) (hi : i < xs.length) : Druntime_boundsError.fits Γ (gt xs i) ∧ Cells Γ A (i * 4) (Druntime_boundsError.cs (gt xs i)) := by
  obtain ⟨cs, ⟨rfl, h1⟩, h2⟩ := h.get i hi
  exact ⟨h1, h2⟩
theorem Own.druntime_boundsErrorT_at {Γ : Gh} {A : Option Addr} {xs : List Druntime_boundsError} {e c : Nat} {row : Rowb} {i : Nat} (h : Own druntime_boundsErrorT Γ e row A c xs) (hi : i < xs.length) : Druntime_boundsError.fits Γ (gt xs i) ∧ OCells row A (i * 4) (Druntime_boundsError.cs (gt xs i)) := by
  obtain ⟨cs, ⟨rfl, h1⟩, h2⟩ := h.get hi
  exact ⟨h1, h2⟩
structure Druntime_errorAddressString where
  msg : ByteArray
  addr : Int
  deriving Inhabited, DecidableEq
def Druntime_errorAddressString.bk (v : Druntime_errorAddressString) : Nat := 1 + bkStr v.msg + bkOne v.addr
abbrev Druntime_errorAddressString.fits (Γ : Gh)  (x : Druntime_errorAddressString) : Prop := x.msg.size ≤ lim ∧ U64 x.addr
abbrev Druntime_errorAddressString.cs  (x : Druntime_errorAddressString) : List Value := [.string x.msg, .int .u64 x.addr]
theorem Druntime_errorAddressString.fits_mono {Γ Δ : Gh}  {x : Druntime_errorAddressString} (h : Druntime_errorAddressString.fits Γ  x) (hs : Γ.le Δ) : Druntime_errorAddressString.fits Δ  x := by
  exact h
def druntime_errorAddressStringT : Ty Druntime_errorAddressString where
  n := 2
  pos := by decide
  rd := fun Γ cs x => cs = Druntime_errorAddressString.cs  x ∧ Druntime_errorAddressString.fits Γ  x
  len := by rintro Γ cs x ⟨rfl, h⟩; rfl
  one := by rintro Γ cs x ⟨rfl, h⟩ u hu; simp only [Druntime_errorAddressString.cs, List.mem_cons, List.not_mem_nil, or_false] at hu; rcases hu with rfl | rfl <;> rfl
  mono := by rintro Γ Δ cs x ⟨rfl, h⟩ hs; exact ⟨rfl, Druntime_errorAddressString.fits_mono h hs⟩
theorem Sl.druntime_errorAddressStringT_at {Γ : Gh} {A : Option Addr} {xs : List Druntime_errorAddressString} {i : Nat} (h : Sl druntime_errorAddressStringT Γ A xs) (hi : i < xs.length) : Druntime_errorAddressString.fits Γ (gt xs i) ∧ Cells Γ A (i * 2) (Druntime_errorAddressString.cs (gt xs i)) := by
  obtain ⟨cs, ⟨rfl, h1⟩, h2⟩ := h.get i hi
  exact ⟨h1, h2⟩
theorem Own.druntime_errorAddressStringT_at {Γ : Gh} {A : Option Addr} {xs : List Druntime_errorAddressString} {e c : Nat} {row : Rowb} {i : Nat} (h : Own druntime_errorAddressStringT Γ e row A c xs) (hi : i < xs.length) : Druntime_errorAddressString.fits Γ (gt xs i) ∧ OCells row A (i * 2) (Druntime_errorAddressString.cs (gt xs i)) := by
  obtain ⟨cs, ⟨rfl, h1⟩, h2⟩ := h.get hi
  exact ⟨h1, h2⟩
inductive Cdisk_change_do where
  | disk_Disk_Cut_1 (a0 : ByteArray) (a1 : Int)
  | disk_add_1 (a0 : ByteArray) (a1 : (List UInt8))
  | disk_Disk_Remove_1 (a0 : ByteArray)
  deriving Inhabited, DecidableEq
def Cdisk_change_do.fid : Cdisk_change_do → FuncId
  | .disk_Disk_Cut_1 _ _ => 42
  | .disk_add_1 _ _ => 60
  | .disk_Disk_Remove_1 _ => 69
def Cdisk_change_do.caps : Cdisk_change_do → Option Addr → Nat → Array Value
  | .disk_Disk_Cut_1 _ _, A, c => #[.pointer (some ⟨c, 0, none⟩), .pointer A]
  | .disk_add_1 _ _, A, c => #[.pointer (some ⟨c, 0, none⟩), .pointer A]
  | .disk_Disk_Remove_1 _, A, c => #[.pointer (some ⟨c, 0, none⟩)]
def Cdisk_change_do.val (x : Cdisk_change_do) (A : Option Addr) (c : Nat) : Value := .func (.func (Cdisk_change_do.fid x)) #[] (Cdisk_change_do.caps x A c)
theorem Cdisk_change_do.val_one (x : Cdisk_change_do) (A : Option Addr) (c : Nat) : (Cdisk_change_do.val x A c).oneCell' = true := rfl
def Cdisk_change_do.ok (Γ : Gh) (A : Option Addr) (c : Nat) : Cdisk_change_do → Prop
  | .disk_Disk_Cut_1 a0 a1 => (Γ c = some (.cells #[.string a0] 9 (0, 0)) ∧ a0.size ≤ lim) ∧ (∃ (g1 : Nat), A = some ⟨g1, 0, none⟩ ∧ Γ g1 = some (.cells #[.int .i64 a1] 3 (0, 0)) ∧ I64 a1) ∧ True
  | .disk_add_1 a0 a1 => (Γ c = some (.cells #[.string a0] 9 (0, 0)) ∧ a0.size ≤ lim) ∧ (∃ (g1 : Nat) (A1_0 : Option Addr) (c1_0 : Nat), A = some ⟨g1, 0, none⟩ ∧ Γ g1 = some (.cells #[.slice A1_0 a1.length c1_0] 31 (0, 0)) ∧ a1.length ≤ c1_0 ∧ Sl byteT Γ A1_0 a1) ∧ True
  | .disk_Disk_Remove_1 a0 => (Γ c = some (.cells #[.string a0] 9 (0, 0)) ∧ a0.size ≤ lim) ∧ True
theorem Cdisk_change_do.ok.mono {Γ Δ : Gh} {A : Option Addr} {c : Nat} : ∀ {x : Cdisk_change_do}, Cdisk_change_do.ok Γ A c x → Γ.le Δ → Cdisk_change_do.ok Δ A c x := by
  intro x h hs; revert h; exact match x with
  | .disk_Disk_Cut_1 _ _ => fun ⟨⟨h0_0, h0_1⟩, ⟨g1, h1_0, h1_1, h1_2⟩, _⟩ => ⟨⟨hs _ _ h0_0, h0_1⟩, ⟨g1, h1_0, hs _ _ h1_1, h1_2⟩, trivial⟩
  | .disk_add_1 _ _ => fun ⟨⟨h0_0, h0_1⟩, ⟨g1, A1_0, c1_0, h1_0, h1_1, h1_2, h1_3⟩, _⟩ => ⟨⟨hs _ _ h0_0, h0_1⟩, ⟨g1, A1_0, c1_0, h1_0, hs _ _ h1_1, h1_2, h1_3.mono hs⟩, trivial⟩
  | .disk_Disk_Remove_1 _ => fun ⟨⟨h0_0, h0_1⟩, _⟩ => ⟨⟨hs _ _ h0_0, h0_1⟩, trivial⟩
def cdisk_change_doT : Ty Cdisk_change_do where
  n := 1
  pos := by decide
  rd := fun Γ cs x => ∃ A c, cs = [Cdisk_change_do.val x A c] ∧ Cdisk_change_do.ok Γ A c x
  len := by rintro Γ cs x ⟨A, c, rfl, h⟩; rfl
  one := by rintro Γ cs x ⟨A, c, rfl, h⟩ u hu; rw [List.mem_singleton.1 hu]; exact Cdisk_change_do.val_one _ _ _
  mono := by rintro Γ Δ cs x ⟨A, c, rfl, h⟩ hs; exact ⟨A, c, rfl, h.mono hs⟩
structure Ddisk_change where
  do_ : Cdisk_change_do
  name : ByteArray
  tail : (List UInt8)
  deriving Inhabited, DecidableEq
def Ddisk_change.bk (v : Ddisk_change) : Nat := 1 + bkOne v.do_ + bkStr v.name + (bkL bkOne) v.tail
abbrev Ddisk_change.fits (Γ : Gh) (A0 : Option Addr) (c0 : Nat) (A2 : Option Addr) (c2 : Nat) (x : Ddisk_change) : Prop := Cdisk_change_do.ok Γ A0 c0 x.do_ ∧ x.name.size ≤ lim ∧ (x.tail.length ≤ c2 ∧ Sl byteT Γ A2 x.tail)
abbrev Ddisk_change.cs (A0 : Option Addr) (c0 : Nat) (A2 : Option Addr) (c2 : Nat) (x : Ddisk_change) : List Value := [Cdisk_change_do.val x.do_ A0 c0, .string x.name, .slice A2 x.tail.length c2]
theorem Ddisk_change.fits_mono {Γ Δ : Gh} {A0 : Option Addr} {c0 : Nat} {A2 : Option Addr} {c2 : Nat} {x : Ddisk_change} (h : Ddisk_change.fits Γ A0 c0 A2 c2 x) (hs : Γ.le Δ) : Ddisk_change.fits Δ A0 c0 A2 c2 x := by
  obtain ⟨h0, h1, h2⟩ := h
  exact ⟨Cdisk_change_do.ok.mono h0 hs, h1, ⟨h2.1, h2.2.mono hs⟩⟩
def ddisk_changeT : Ty Ddisk_change where
  n := 3
  pos := by decide
  rd := fun Γ cs x => ∃ A0 c0 A2 c2, cs = Ddisk_change.cs A0 c0 A2 c2 x ∧ Ddisk_change.fits Γ A0 c0 A2 c2 x
  len := by rintro Γ cs x ⟨A0, c0, A2, c2, rfl, h⟩; rfl
  one := by rintro Γ cs x ⟨A0, c0, A2, c2, rfl, h⟩ u hu; simp only [Ddisk_change.cs, List.mem_cons, List.not_mem_nil, or_false] at hu; rcases hu with rfl | rfl | rfl <;> first | rfl | exact Cdisk_change_do.val_one _ _ _
  mono := by rintro Γ Δ cs x ⟨A0, c0, A2, c2, rfl, h⟩ hs; exact ⟨A0, c0, A2, c2, rfl, Ddisk_change.fits_mono h hs⟩
theorem Sl.ddisk_changeT_at {Γ : Gh} {A : Option Addr} {xs : List Ddisk_change} (h : Sl ddisk_changeT Γ A xs) (i : Nat) : ∃ A0 c0 A2 c2, i < xs.length → Ddisk_change.fits Γ A0 c0 A2 c2 (gt xs i) ∧ Cells Γ A (i * 3) (Ddisk_change.cs A0 c0 A2 c2 (gt xs i)) := by
  by_cases hi : i < xs.length
  · obtain ⟨cs, ⟨A0, c0, A2, c2, rfl, h⟩, h2⟩ := h.get i hi
    exact ⟨A0, c0, A2, c2, fun _ => ⟨h, h2⟩⟩
  · exact ⟨none, 0, none, 0, fun h => absurd h hi⟩
theorem Own.ddisk_changeT_at {Γ : Gh} {A : Option Addr} {xs : List Ddisk_change} {e c : Nat} {row : Rowb} (h : Own ddisk_changeT Γ e row A c xs) (i : Nat) : ∃ A0 c0 A2 c2, i < xs.length → Ddisk_change.fits Γ A0 c0 A2 c2 (gt xs i) ∧ OCells row A (i * 3) (Ddisk_change.cs A0 c0 A2 c2 (gt xs i)) := by
  by_cases hi : i < xs.length
  · obtain ⟨cs, ⟨A0, c0, A2, c2, rfl, h⟩, h2⟩ := h.get hi
    exact ⟨A0, c0, A2, c2, fun _ => ⟨h, h2⟩⟩
  · exact ⟨none, 0, none, 0, fun h => absurd h hi⟩
end Fw
end Go.Proofs.Ytogcoieekhbfdaa
