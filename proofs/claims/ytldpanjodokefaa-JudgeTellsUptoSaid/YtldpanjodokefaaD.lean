/- The data types of the program, as Lean structures, and what they are in memory. No condition. -/
import Derived.Test.YtldpanjodokefaaK10
namespace Go.Proofs.Ytldpanjodokefaa
namespace Fw
set_option linter.unusedVariables false
set_option linter.unusedSimpArgs false
set_option linter.unusedSectionVars false
open Go.RowKit
structure Druntime_boundsError where
  x_ : Int
  y : Int
  signed : Bool
  code : UInt8
  deriving Inhabited, DecidableEq
def Druntime_boundsError.bk (v : Druntime_boundsError) : Nat := 1 + bkOne v.x_ + bkOne v.y + bkOne v.signed + bkOne v.code
abbrev Druntime_boundsError.fits (Γ : Gh)  (x : Druntime_boundsError) : Prop := I64 x.x_ ∧ I64 x.y
abbrev Druntime_boundsError.cs  (x : Druntime_boundsError) : List Value := [.int .i64 x.x_, .int .i64 x.y, .bool x.signed, .int .u8 ((x.code.toNat : Nat) : Int)]
theorem Druntime_boundsError.fits_mono {Γ Δ : Gh}  {x : Druntime_boundsError} (h : Druntime_boundsError.fits Γ  x) (hs : Γ.le Δ) : Druntime_boundsError.fits Δ  x := by
  exact h
def druntime_boundsErrorT : Ty Druntime_boundsError where
  n := 4
  pos := by decide
  rd := fun Γ cs x => cs = Druntime_boundsError.cs  x ∧ Druntime_boundsError.fits Γ  x
  len := by rintro Γ cs x ⟨rfl, h⟩; rfl
  one := by rintro Γ cs x ⟨rfl, h⟩ u hu; simp only [Druntime_boundsError.cs, List.mem_cons, List.not_mem_nil, or_false] at hu; rcases hu with rfl | rfl | rfl | rfl <;> rfl
  mono := by rintro Γ Δ cs x ⟨rfl, h⟩ hs; exact ⟨rfl, Druntime_boundsError.fits_mono h hs⟩
theorem Sl.druntime_boundsErrorT_at {Γ : Gh} {A : Option Addr} {xs : List Druntime_boundsError} {i : Nat} (h : Sl druntime_boundsErrorT Γ A xs) (hi : i < xs.length) : Druntime_boundsError.fits Γ (gt xs i) ∧ Cells Γ A (i * 4) (Druntime_boundsError.cs (gt xs i)) := by
  obtain ⟨cs, ⟨rfl, h1⟩, h2⟩ := h.get i hi
  exact ⟨h1, h2⟩
theorem Own.druntime_boundsErrorT_at {Γ : Gh} {A : Option Addr} {xs : List Druntime_boundsError} {e c : Nat} {row : Rowb} {i : Nat} (h : Own druntime_boundsErrorT Γ e row A c xs) (hi : i < xs.length) : Druntime_boundsError.fits Γ (gt xs i) ∧ OCells row A (i * 4) (Druntime_boundsError.cs (gt xs i)) := by
  obtain ⟨cs, ⟨rfl, h1⟩, h2⟩ := h.get hi
  exact ⟨h1, h2⟩
structure Druntime_errorAddressString where
  msg : ByteArray
  addr : Int
  deriving Inhabited, DecidableEq
def Druntime_errorAddressString.bk (v : Druntime_errorAddressString) : Nat := 1 + bkStr v.msg + bkOne v.addr
abbrev Druntime_errorAddressString.fits (Γ : Gh)  (x : Druntime_errorAddressString) : Prop := x.msg.size ≤ lim ∧ U64 x.addr
abbrev Druntime_errorAddressString.cs  (x : Druntime_errorAddressString) : List Value := [.string x.msg, .int .u64 x.addr]
theorem Druntime_errorAddressString.fits_mono {Γ Δ : Gh}  {x : Druntime_errorAddressString} (h : Druntime_errorAddressString.fits Γ  x) (hs : Γ.le Δ) : Druntime_errorAddressString.fits Δ  x := by
  exact h
def druntime_errorAddressStringT : Ty Druntime_errorAddressString where
  n := 2
  pos := by decide
  rd := fun Γ cs x => cs = Druntime_errorAddressString.cs  x ∧ Druntime_errorAddressString.fits Γ  x
  len := by rintro Γ cs x ⟨rfl, h⟩; rfl
  one := by rintro Γ cs x ⟨rfl, h⟩ u hu; simp only [Druntime_errorAddressString.cs, List.mem_cons, List.not_mem_nil, or_false] at hu; rcases hu with rfl | rfl <;> rfl
  mono := by rintro Γ Δ cs x ⟨rfl, h⟩ hs; exact ⟨rfl, Druntime_errorAddressString.fits_mono h hs⟩
theorem Sl.druntime_errorAddressStringT_at {Γ : Gh} {A : Option Addr} {xs : List Druntime_errorAddressString} {i : Nat} (h : Sl druntime_errorAddressStringT Γ A xs) (hi : i < xs.length) : Druntime_errorAddressString.fits Γ (gt xs i) ∧ Cells Γ A (i * 2) (Druntime_errorAddressString.cs (gt xs i)) := by
  obtain ⟨cs, ⟨rfl, h1⟩, h2⟩ := h.get i hi
  exact ⟨h1, h2⟩
theorem Own.druntime_errorAddressStringT_at {Γ : Gh} {A : Option Addr} {xs : List Druntime_errorAddressString} {e c : Nat} {row : Rowb} {i : Nat} (h : Own druntime_errorAddressStringT Γ e row A c xs) (hi : i < xs.length) : Druntime_errorAddressString.fits Γ (gt xs i) ∧ OCells row A (i * 2) (Druntime_errorAddressString.cs (gt xs i)) := by
  obtain ⟨cs, ⟨rfl, h1⟩, h2⟩ := h.get hi
  exact ⟨h1, h2⟩
structure Dot where
  s : Int
  n : Int
  deriving Inhabited, DecidableEq
def Dot.bk (v : Dot) : Nat := 1 + bkOne v.s + bkOne v.n
abbrev Dot.fits (Γ : Gh)  (x : Dot) : Prop := I64 x.s ∧ I64 x.n
abbrev Dot.cs  (x : Dot) : List Value := [.int .i64 x.s, .int .i64 x.n]
theorem Dot.fits_mono {Γ Δ : Gh}  {x : Dot} (h : Dot.fits Γ  x) (hs : Γ.le Δ) : Dot.fits Δ  x := by
  exact h
def dotT : Ty Dot where
  n := 2
  pos := by decide
  rd := fun Γ cs x => cs = Dot.cs  x ∧ Dot.fits Γ  x
  len := by rintro Γ cs x ⟨rfl, h⟩; rfl
  one := by rintro Γ cs x ⟨rfl, h⟩ u hu; simp only [Dot.cs, List.mem_cons, List.not_mem_nil, or_false] at hu; rcases hu with rfl | rfl <;> rfl
  mono := by rintro Γ Δ cs x ⟨rfl, h⟩ hs; exact ⟨rfl, Dot.fits_mono h hs⟩
theorem Sl.dotT_at {Γ : Gh} {A : Option Addr} {xs : List Dot} {i : Nat} (h : Sl dotT Γ A xs) (hi : i < xs.length) : Dot.fits Γ (gt xs i) ∧ Cells Γ A (i * 2) (Dot.cs (gt xs i)) := by
  obtain ⟨cs, ⟨rfl, h1⟩, h2⟩ := h.get i hi
  exact ⟨h1, h2⟩
theorem Own.dotT_at {Γ : Gh} {A : Option Addr} {xs : List Dot} {e c : Nat} {row : Rowb} {i : Nat} (h : Own dotT Γ e row A c xs) (hi : i < xs.length) : Dot.fits Γ (gt xs i) ∧ OCells row A (i * 2) (Dot.cs (gt xs i)) := by
  obtain ⟨cs, ⟨rfl, h1⟩, h2⟩ := h.get hi
  exact ⟨h1, h2⟩
structure Djudge_Act where
  read : Bool
  sess : Int
  key : ByteArray
  dot : Dot
  oK : Bool
  reads : (List Dot)
  seen : (List Int)
  deriving Inhabited, DecidableEq
def Djudge_Act.bk (v : Djudge_Act) : Nat := 1 + bkOne v.read + bkOne v.sess + bkStr v.key + Dot.bk v.dot + bkOne v.oK + (bkL Dot.bk) v.reads + (bkL bkOne) v.seen
abbrev Djudge_Act.fits (Γ : Gh) (A6 : Option Addr) (c6 : Nat) (A7 : Option Addr) (c7 : Nat) (x : Djudge_Act) : Prop := I64 x.sess ∧ x.key.size ≤ lim ∧ I64 x.dot.s ∧ I64 x.dot.n ∧ (x.reads.length ≤ c6 ∧ Sl dotT Γ A6 x.reads) ∧ (x.seen.length ≤ c7 ∧ Sl intT Γ A7 x.seen)
abbrev Djudge_Act.cs (A6 : Option Addr) (c6 : Nat) (A7 : Option Addr) (c7 : Nat) (x : Djudge_Act) : List Value := [.bool x.read, .int .i64 x.sess, .string x.key, .int .i64 x.dot.s, .int .i64 x.dot.n, .bool x.oK, .slice A6 x.reads.length c6, .slice A7 x.seen.length c7]
theorem Djudge_Act.fits_mono {Γ Δ : Gh} {A6 : Option Addr} {c6 : Nat} {A7 : Option Addr} {c7 : Nat} {x : Djudge_Act} (h : Djudge_Act.fits Γ A6 c6 A7 c7 x) (hs : Γ.le Δ) : Djudge_Act.fits Δ A6 c6 A7 c7 x := by
  obtain ⟨h0, h1, h2, h3, h4, h5⟩ := h
  exact ⟨h0, h1, h2, h3, ⟨h4.1, h4.2.mono hs⟩, ⟨h5.1, h5.2.mono hs⟩⟩
def djudge_ActT : Ty Djudge_Act where
  n := 8
  pos := by decide
  rd := fun Γ cs x => ∃ A6 c6 A7 c7, cs = Djudge_Act.cs A6 c6 A7 c7 x ∧ Djudge_Act.fits Γ A6 c6 A7 c7 x
  len := by rintro Γ cs x ⟨A6, c6, A7, c7, rfl, h⟩; rfl
  one := by rintro Γ cs x ⟨A6, c6, A7, c7, rfl, h⟩ u hu; simp only [Djudge_Act.cs, List.mem_cons, List.not_mem_nil, or_false] at hu; rcases hu with rfl | rfl | rfl | rfl | rfl | rfl | rfl | rfl <;> rfl
  mono := by rintro Γ Δ cs x ⟨A6, c6, A7, c7, rfl, h⟩ hs; exact ⟨A6, c6, A7, c7, rfl, Djudge_Act.fits_mono h hs⟩
theorem Sl.djudge_ActT_at {Γ : Gh} {A : Option Addr} {xs : List Djudge_Act} (h : Sl djudge_ActT Γ A xs) (i : Nat) : ∃ A6 c6 A7 c7, i < xs.length → Djudge_Act.fits Γ A6 c6 A7 c7 (gt xs i) ∧ Cells Γ A (i * 8) (Djudge_Act.cs A6 c6 A7 c7 (gt xs i)) := by
  by_cases hi : i < xs.length
  · obtain ⟨cs, ⟨A6, c6, A7, c7, rfl, h⟩, h2⟩ := h.get i hi
    exact ⟨A6, c6, A7, c7, fun _ => ⟨h, h2⟩⟩
  · exact ⟨none, 0, none, 0, fun h => absurd h hi⟩
theorem Own.djudge_ActT_at {Γ : Gh} {A : Option Addr} {xs : List Djudge_Act} {e c : Nat} {row : Rowb} (h : Own djudge_ActT Γ e row A c xs) (i : Nat) : ∃ A6 c6 A7 c7, i < xs.length → Djudge_Act.fits Γ A6 c6 A7 c7 (gt xs i) ∧ OCells row A (i * 8) (Djudge_Act.cs A6 c6 A7 c7 (gt xs i)) := by
  by_cases hi : i < xs.length
  · obtain ⟨cs, ⟨A6, c6, A7, c7, rfl, h⟩, h2⟩ := h.get hi
    exact ⟨A6, c6, A7, c7, fun _ => ⟨h, h2⟩⟩
  · exact ⟨none, 0, none, 0, fun h => absurd h hi⟩
structure Dfirthref23_Act where
  read : Bool
  sess : Int
  key : ByteArray
  dot : Dot
  oK : Bool
  reads : (List Dot)
  seen : (List Int)
  deriving Inhabited, DecidableEq
def Dfirthref23_Act.bk (v : Dfirthref23_Act) : Nat := 1 + bkOne v.read + bkOne v.sess + bkStr v.key + Dot.bk v.dot + bkOne v.oK + (bkL Dot.bk) v.reads + (bkL bkOne) v.seen
abbrev Dfirthref23_Act.fits (Γ : Gh) (A6 : Option Addr) (c6 : Nat) (A7 : Option Addr) (c7 : Nat) (x : Dfirthref23_Act) : Prop := I64 x.sess ∧ x.key.size ≤ lim ∧ I64 x.dot.s ∧ I64 x.dot.n ∧ (x.reads.length ≤ c6 ∧ Sl dotT Γ A6 x.reads) ∧ (x.seen.length ≤ c7 ∧ Sl intT Γ A7 x.seen)
abbrev Dfirthref23_Act.cs (A6 : Option Addr) (c6 : Nat) (A7 : Option Addr) (c7 : Nat) (x : Dfirthref23_Act) : List Value := [.bool x.read, .int .i64 x.sess, .string x.key, .int .i64 x.dot.s, .int .i64 x.dot.n, .bool x.oK, .slice A6 x.reads.length c6, .slice A7 x.seen.length c7]
theorem Dfirthref23_Act.fits_mono {Γ Δ : Gh} {A6 : Option Addr} {c6 : Nat} {A7 : Option Addr} {c7 : Nat} {x : Dfirthref23_Act} (h : Dfirthref23_Act.fits Γ A6 c6 A7 c7 x) (hs : Γ.le Δ) : Dfirthref23_Act.fits Δ A6 c6 A7 c7 x := by
  obtain ⟨h0, h1, h2, h3, h4, h5⟩ := h
  exact ⟨h0, h1, h2, h3, ⟨h4.1, h4.2.mono hs⟩, ⟨h5.1, h5.2.mono hs⟩⟩
def dfirthref23_ActT : Ty Dfirthref23_Act where
  n := 8
  pos := by decide
  rd := fun Γ cs x => ∃ A6 c6 A7 c7, cs = Dfirthref23_Act.cs A6 c6 A7 c7 x ∧ Dfirthref23_Act.fits Γ A6 c6 A7 c7 x
  len := by rintro Γ cs x ⟨A6, c6, A7, c7, rfl, h⟩; rfl
  one := by rintro Γ cs x ⟨A6, c6, A7, c7, rfl, h⟩ u hu; simp only [Dfirthref23_Act.cs, List.mem_cons, List.not_mem_nil, or_false] at hu; rcases hu with rfl | rfl | rfl | rfl | rfl | rfl | rfl | rfl <;> rfl
  mono := by rintro Γ Δ cs x ⟨A6, c6, A7, c7, rfl, h⟩ hs; exact ⟨A6, c6, A7, c7, rfl, Dfirthref23_Act.fits_mono h hs⟩
theorem Sl.dfirthref23_ActT_at {Γ : Gh} {A : Option Addr} {xs : List Dfirthref23_Act} (h : Sl dfirthref23_ActT Γ A xs) (i : Nat) : ∃ A6 c6 A7 c7, i < xs.length → Dfirthref23_Act.fits Γ A6 c6 A7 c7 (gt xs i) ∧ Cells Γ A (i * 8) (Dfirthref23_Act.cs A6 c6 A7 c7 (gt xs i)) := by
  by_cases hi : i < xs.length
  · obtain ⟨cs, ⟨A6, c6, A7, c7, rfl, h⟩, h2⟩ := h.get i hi
    exact ⟨A6, c6, A7, c7, fun _ => ⟨h, h2⟩⟩
  · exact ⟨none, 0, none, 0, fun h => absurd h hi⟩
theorem Own.dfirthref23_ActT_at {Γ : Gh} {A : Option Addr} {xs : List Dfirthref23_Act} {e c : Nat} {row : Rowb} (h : Own dfirthref23_ActT Γ e row A c xs) (i : Nat) : ∃ A6 c6 A7 c7, i < xs.length → Dfirthref23_Act.fits Γ A6 c6 A7 c7 (gt xs i) ∧ OCells row A (i * 8) (Dfirthref23_Act.cs A6 c6 A7 c7 (gt xs i)) := by
  by_cases hi : i < xs.length
  · obtain ⟨cs, ⟨A6, c6, A7, c7, rfl, h⟩, h2⟩ := h.get hi
    exact ⟨A6, c6, A7, c7, fun _ => ⟨h, h2⟩⟩
  · exact ⟨none, 0, none, 0, fun h => absurd h hi⟩
end Fw
end Go.Proofs.Ytldpanjodokefaa
