/- The data types of the program, as Lean structures, and what they are in memory. No condition. -/
import Derived.Test.YtbidmceookkapaaGreatK10
namespace Go.Proofs.YtbidmceookkapaaGreat
namespace Fw
set_option linter.unusedVariables false
set_option linter.unusedSimpArgs false
set_option linter.unusedSectionVars false
open Go.RowKit
structure Druntime_boundsError where
  x_ : Int
  y : Int
  signed : Bool
  code : UInt8
  deriving Inhabited, DecidableEq
def Druntime_boundsError.bk (v : Druntime_boundsError) : Nat := 1 + bkOne v.x_ + bkOne v.y + bkOne v.signed + bkOne v.code
abbrev Druntime_boundsError.fits (Γ : Gh)  (x : Druntime_boundsError) : Prop := I64 x.x_ ∧ I64 x.y
abbrev Druntime_boundsError.cs  (x : Druntime_boundsError) : List Value := [.int .i64 x.x_, .int .i64 x.y, .bool x.signed, .int .u8 ((x.code.toNat : Nat) : Int)]
theorem Druntime_boundsError.fits_mono {Γ Δ : Gh}  {x : Druntime_boundsError} (h : Druntime_boundsError.fits Γ  x) (hs : Γ.le Δ) : Druntime_boundsError.fits Δ  x := by
  exact h
def druntime_boundsErrorT : Ty Druntime_boundsError where
  n := 4
  pos := by decide
  rd := fun Γ cs x => cs = Druntime_boundsError.cs  x ∧ Druntime_boundsError.fits Γ  x
  len := by rintro Γ cs x ⟨rfl, h⟩; rfl
  one := by rintro Γ cs x ⟨rfl, h⟩ u hu; simp only [Druntime_boundsError.cs, List.mem_cons, List.not_mem_nil, or_false] at hu; rcases hu with rfl | rfl | rfl | rfl <;> rfl
  mono := by rintro Γ Δ cs x ⟨rfl, h⟩ hs; exact ⟨rfl, Druntime_boundsError.fits_mono h hs⟩
theorem Sl.druntime_boundsErrorT_at {Γ : Gh} {A : Option Addr} {xs : List Druntime_boundsError} {i : Nat} (h : Sl druntime_boundsErrorT Γ A xs) (hi : i < xs.length) : Druntime_boundsError.fits Γ (gt xs i) ∧ Cells Γ A (i * 4) (Druntime_boundsError.cs (gt xs i)) := by
  obtain ⟨cs, ⟨rfl, h1⟩, h2⟩ := h.get i hi
  exact ⟨h1, h2⟩
theorem Own.druntime_boundsErrorT_at {Γ : Gh} {A : Option Addr} {xs : List Druntime_boundsError} {e c : Nat} {row : Rowb} {i : Nat} (h : Own druntime_boundsErrorT Γ e row A c xs) (hi : i < xs.length) : Druntime_boundsError.fits Γ (gt xs i) ∧ OCells row A (i * 4) (Druntime_boundsError.cs (gt xs i)) := by
  obtain ⟨cs, ⟨rfl, h1⟩, h2⟩ := h.get hi
  exact ⟨h1, h2⟩
structure Druntime_errorAddressString where
  msg : ByteArray
  addr : Int
  deriving Inhabited, DecidableEq
def Druntime_errorAddressString.bk (v : Druntime_errorAddressString) : Nat := 1 + bkStr v.msg + bkOne v.addr
abbrev Druntime_errorAddressString.fits (Γ : Gh)  (x : Druntime_errorAddressString) : Prop := x.msg.size ≤ lim ∧ U64 x.addr
abbrev Druntime_errorAddressString.cs  (x : Druntime_errorAddressString) : List Value := [.string x.msg, .int .u64 x.addr]
theorem Druntime_errorAddressString.fits_mono {Γ Δ : Gh}  {x : Druntime_errorAddressString} (h : Druntime_errorAddressString.fits Γ  x) (hs : Γ.le Δ) : Druntime_errorAddressString.fits Δ  x := by
  exact h
def druntime_errorAddressStringT : Ty Druntime_errorAddressString where
  n := 2
  pos := by decide
  rd := fun Γ cs x => cs = Druntime_errorAddressString.cs  x ∧ Druntime_errorAddressString.fits Γ  x
  len := by rintro Γ cs x ⟨rfl, h⟩; rfl
  one := by rintro Γ cs x ⟨rfl, h⟩ u hu; simp only [Druntime_errorAddressString.cs, List.mem_cons, List.not_mem_nil, or_false] at hu; rcases hu with rfl | rfl <;> rfl
  mono := by rintro Γ Δ cs x ⟨rfl, h⟩ hs; exact ⟨rfl, Druntime_errorAddressString.fits_mono h hs⟩
theorem Sl.druntime_errorAddressStringT_at {Γ : Gh} {A : Option Addr} {xs : List Druntime_errorAddressString} {i : Nat} (h : Sl druntime_errorAddressStringT Γ A xs) (hi : i < xs.length) : Druntime_errorAddressString.fits Γ (gt xs i) ∧ Cells Γ A (i * 2) (Druntime_errorAddressString.cs (gt xs i)) := by
  obtain ⟨cs, ⟨rfl, h1⟩, h2⟩ := h.get i hi
  exact ⟨h1, h2⟩
theorem Own.druntime_errorAddressStringT_at {Γ : Gh} {A : Option Addr} {xs : List Druntime_errorAddressString} {e c : Nat} {row : Rowb} {i : Nat} (h : Own druntime_errorAddressStringT Γ e row A c xs) (hi : i < xs.length) : Druntime_errorAddressString.fits Γ (gt xs i) ∧ OCells row A (i * 2) (Druntime_errorAddressString.cs (gt xs i)) := by
  obtain ⟨cs, ⟨rfl, h1⟩, h2⟩ := h.get hi
  exact ⟨h1, h2⟩
structure Dot where
  s : Int
  n : Int
  deriving Inhabited, DecidableEq
def Dot.bk (v : Dot) : Nat := 1 + bkOne v.s + bkOne v.n
abbrev Dot.fits (Γ : Gh)  (x : Dot) : Prop := I64 x.s ∧ I64 x.n
abbrev Dot.cs  (x : Dot) : List Value := [.int .i64 x.s, .int .i64 x.n]
theorem Dot.fits_mono {Γ Δ : Gh}  {x : Dot} (h : Dot.fits Γ  x) (hs : Γ.le Δ) : Dot.fits Δ  x := by
  exact h
def dotT : Ty Dot where
  n := 2
  pos := by decide
  rd := fun Γ cs x => cs = Dot.cs  x ∧ Dot.fits Γ  x
  len := by rintro Γ cs x ⟨rfl, h⟩; rfl
  one := by rintro Γ cs x ⟨rfl, h⟩ u hu; simp only [Dot.cs, List.mem_cons, List.not_mem_nil, or_false] at hu; rcases hu with rfl | rfl <;> rfl
  mono := by rintro Γ Δ cs x ⟨rfl, h⟩ hs; exact ⟨rfl, Dot.fits_mono h hs⟩
theorem Sl.dotT_at {Γ : Gh} {A : Option Addr} {xs : List Dot} {i : Nat} (h : Sl dotT Γ A xs) (hi : i < xs.length) : Dot.fits Γ (gt xs i) ∧ Cells Γ A (i * 2) (Dot.cs (gt xs i)) := by
  obtain ⟨cs, ⟨rfl, h1⟩, h2⟩ := h.get i hi
  exact ⟨h1, h2⟩
theorem Own.dotT_at {Γ : Gh} {A : Option Addr} {xs : List Dot} {e c : Nat} {row : Rowb} {i : Nat} (h : Own dotT Γ e row A c xs) (hi : i < xs.length) : Dot.fits Γ (gt xs i) ∧ OCells row A (i * 2) (Dot.cs (gt xs i)) := by
  obtain ⟨cs, ⟨rfl, h1⟩, h2⟩ := h.get hi
  exact ⟨h1, h2⟩
structure Span where
  s : Int
  f : Int
  t : Int
  deriving Inhabited, DecidableEq
def Span.bk (v : Span) : Nat := 1 + bkOne v.s + bkOne v.f + bkOne v.t
abbrev Span.fits (Γ : Gh)  (x : Span) : Prop := I64 x.s ∧ I64 x.f ∧ I64 x.t
abbrev Span.cs  (x : Span) : List Value := [.int .i64 x.s, .int .i64 x.f, .int .i64 x.t]
theorem Span.fits_mono {Γ Δ : Gh}  {x : Span} (h : Span.fits Γ  x) (hs : Γ.le Δ) : Span.fits Δ  x := by
  exact h
def spanT : Ty Span where
  n := 3
  pos := by decide
  rd := fun Γ cs x => cs = Span.cs  x ∧ Span.fits Γ  x
  len := by rintro Γ cs x ⟨rfl, h⟩; rfl
  one := by rintro Γ cs x ⟨rfl, h⟩ u hu; simp only [Span.cs, List.mem_cons, List.not_mem_nil, or_false] at hu; rcases hu with rfl | rfl | rfl <;> rfl
  mono := by rintro Γ Δ cs x ⟨rfl, h⟩ hs; exact ⟨rfl, Span.fits_mono h hs⟩
theorem Sl.spanT_at {Γ : Gh} {A : Option Addr} {xs : List Span} {i : Nat} (h : Sl spanT Γ A xs) (hi : i < xs.length) : Span.fits Γ (gt xs i) ∧ Cells Γ A (i * 3) (Span.cs (gt xs i)) := by
  obtain ⟨cs, ⟨rfl, h1⟩, h2⟩ := h.get i hi
  exact ⟨h1, h2⟩
theorem Own.spanT_at {Γ : Gh} {A : Option Addr} {xs : List Span} {e c : Nat} {row : Rowb} {i : Nat} (h : Own spanT Γ e row A c xs) (hi : i < xs.length) : Span.fits Γ (gt xs i) ∧ OCells row A (i * 3) (Span.cs (gt xs i)) := by
  obtain ⟨cs, ⟨rfl, h1⟩, h2⟩ := h.get hi
  exact ⟨h1, h2⟩
structure Ver where
  dot : Dot
  past : (List Span)
  gone : Bool
  val : ByteArray
  deriving Inhabited, DecidableEq
def Ver.bk (v : Ver) : Nat := 1 + Dot.bk v.dot + (bkL Span.bk) v.past + bkOne v.gone + bkStr v.val
abbrev Ver.fits (Γ : Gh) (A2 : Option Addr) (c2 : Nat) (x : Ver) : Prop := I64 x.dot.s ∧ I64 x.dot.n ∧ (x.past.length ≤ c2 ∧ Sl spanT Γ A2 x.past) ∧ x.val.size ≤ lim
abbrev Ver.cs (A2 : Option Addr) (c2 : Nat) (x : Ver) : List Value := [.int .i64 x.dot.s, .int .i64 x.dot.n, .slice A2 x.past.length c2, .bool x.gone, .string x.val]
theorem Ver.fits_mono {Γ Δ : Gh} {A2 : Option Addr} {c2 : Nat} {x : Ver} (h : Ver.fits Γ A2 c2 x) (hs : Γ.le Δ) : Ver.fits Δ A2 c2 x := by
  obtain ⟨h0, h1, h2, h3⟩ := h
  exact ⟨h0, h1, ⟨h2.1, h2.2.mono hs⟩, h3⟩
def verT : Ty Ver where
  n := 5
  pos := by decide
  rd := fun Γ cs x => ∃ A2 c2, cs = Ver.cs A2 c2 x ∧ Ver.fits Γ A2 c2 x
  len := by rintro Γ cs x ⟨A2, c2, rfl, h⟩; rfl
  one := by rintro Γ cs x ⟨A2, c2, rfl, h⟩ u hu; simp only [Ver.cs, List.mem_cons, List.not_mem_nil, or_false] at hu; rcases hu with rfl | rfl | rfl | rfl | rfl <;> rfl
  mono := by rintro Γ Δ cs x ⟨A2, c2, rfl, h⟩ hs; exact ⟨A2, c2, rfl, Ver.fits_mono h hs⟩
theorem Sl.verT_at {Γ : Gh} {A : Option Addr} {xs : List Ver} (h : Sl verT Γ A xs) (i : Nat) : ∃ A2 c2, i < xs.length → Ver.fits Γ A2 c2 (gt xs i) ∧ Cells Γ A (i * 5) (Ver.cs A2 c2 (gt xs i)) := by
  by_cases hi : i < xs.length
  · obtain ⟨cs, ⟨A2, c2, rfl, h⟩, h2⟩ := h.get i hi
    exact ⟨A2, c2, fun _ => ⟨h, h2⟩⟩
  · exact ⟨none, 0, fun h => absurd h hi⟩
theorem Own.verT_at {Γ : Gh} {A : Option Addr} {xs : List Ver} {e c : Nat} {row : Rowb} (h : Own verT Γ e row A c xs) (i : Nat) : ∃ A2 c2, i < xs.length → Ver.fits Γ A2 c2 (gt xs i) ∧ OCells row A (i * 5) (Ver.cs A2 c2 (gt xs i)) := by
  by_cases hi : i < xs.length
  · obtain ⟨cs, ⟨A2, c2, rfl, h⟩, h2⟩ := h.get hi
    exact ⟨A2, c2, fun _ => ⟨h, h2⟩⟩
  · exact ⟨none, 0, fun h => absurd h hi⟩
structure Rec where
  key : ByteArray
  vers : (List Ver)
  deriving Inhabited, DecidableEq
def Rec.bk (v : Rec) : Nat := 1 + bkStr v.key + (bkL Ver.bk) v.vers
abbrev Rec.fits (Γ : Gh) (A1 : Option Addr) (c1 : Nat) (x : Rec) : Prop := x.key.size ≤ lim ∧ (x.vers.length ≤ c1 ∧ Sl verT Γ A1 x.vers)
abbrev Rec.cs (A1 : Option Addr) (c1 : Nat) (x : Rec) : List Value := [.string x.key, .slice A1 x.vers.length c1]
theorem Rec.fits_mono {Γ Δ : Gh} {A1 : Option Addr} {c1 : Nat} {x : Rec} (h : Rec.fits Γ A1 c1 x) (hs : Γ.le Δ) : Rec.fits Δ A1 c1 x := by
  obtain ⟨h0, h1⟩ := h
  exact ⟨h0, ⟨h1.1, h1.2.mono hs⟩⟩
def recT : Ty Rec where
  n := 2
  pos := by decide
  rd := fun Γ cs x => ∃ A1 c1, cs = Rec.cs A1 c1 x ∧ Rec.fits Γ A1 c1 x
  len := by rintro Γ cs x ⟨A1, c1, rfl, h⟩; rfl
  one := by rintro Γ cs x ⟨A1, c1, rfl, h⟩ u hu; simp only [Rec.cs, List.mem_cons, List.not_mem_nil, or_false] at hu; rcases hu with rfl | rfl <;> rfl
  mono := by rintro Γ Δ cs x ⟨A1, c1, rfl, h⟩ hs; exact ⟨A1, c1, rfl, Rec.fits_mono h hs⟩
theorem Sl.recT_at {Γ : Gh} {A : Option Addr} {xs : List Rec} (h : Sl recT Γ A xs) (i : Nat) : ∃ A1 c1, i < xs.length → Rec.fits Γ A1 c1 (gt xs i) ∧ Cells Γ A (i * 2) (Rec.cs A1 c1 (gt xs i)) := by
  by_cases hi : i < xs.length
  · obtain ⟨cs, ⟨A1, c1, rfl, h⟩, h2⟩ := h.get i hi
    exact ⟨A1, c1, fun _ => ⟨h, h2⟩⟩
  · exact ⟨none, 0, fun h => absurd h hi⟩
theorem Own.recT_at {Γ : Gh} {A : Option Addr} {xs : List Rec} {e c : Nat} {row : Rowb} (h : Own recT Γ e row A c xs) (i : Nat) : ∃ A1 c1, i < xs.length → Rec.fits Γ A1 c1 (gt xs i) ∧ OCells row A (i * 2) (Rec.cs A1 c1 (gt xs i)) := by
  by_cases hi : i < xs.length
  · obtain ⟨cs, ⟨A1, c1, rfl, h⟩, h2⟩ := h.get hi
    exact ⟨A1, c1, fun _ => ⟨h, h2⟩⟩
  · exact ⟨none, 0, fun h => absurd h hi⟩
structure Dmend_Step where
  path : (List Int)
  hashes : (List Int)
  recs : (List Rec)
  deriving Inhabited, DecidableEq
def Dmend_Step.bk (v : Dmend_Step) : Nat := 1 + (bkL bkOne) v.path + (bkL bkOne) v.hashes + (bkL Rec.bk) v.recs
abbrev Dmend_Step.fits (Γ : Gh) (A0 : Option Addr) (c0 : Nat) (A1 : Option Addr) (c1 : Nat) (A2 : Option Addr) (c2 : Nat) (x : Dmend_Step) : Prop := (x.path.length ≤ c0 ∧ Sl intT Γ A0 x.path) ∧ (x.hashes.length ≤ c1 ∧ Sl u64T Γ A1 x.hashes) ∧ (x.recs.length ≤ c2 ∧ Sl recT Γ A2 x.recs)
abbrev Dmend_Step.cs (A0 : Option Addr) (c0 : Nat) (A1 : Option Addr) (c1 : Nat) (A2 : Option Addr) (c2 : Nat) (x : Dmend_Step) : List Value := [.slice A0 x.path.length c0, .slice A1 x.hashes.length c1, .slice A2 x.recs.length c2]
theorem Dmend_Step.fits_mono {Γ Δ : Gh} {A0 : Option Addr} {c0 : Nat} {A1 : Option Addr} {c1 : Nat} {A2 : Option Addr} {c2 : Nat} {x : Dmend_Step} (h : Dmend_Step.fits Γ A0 c0 A1 c1 A2 c2 x) (hs : Γ.le Δ) : Dmend_Step.fits Δ A0 c0 A1 c1 A2 c2 x := by
  obtain ⟨h0, h1, h2⟩ := h
  exact ⟨⟨h0.1, h0.2.mono hs⟩, ⟨h1.1, h1.2.mono hs⟩, ⟨h2.1, h2.2.mono hs⟩⟩
def dmend_StepT : Ty Dmend_Step where
  n := 3
  pos := by decide
  rd := fun Γ cs x => ∃ A0 c0 A1 c1 A2 c2, cs = Dmend_Step.cs A0 c0 A1 c1 A2 c2 x ∧ Dmend_Step.fits Γ A0 c0 A1 c1 A2 c2 x
  len := by rintro Γ cs x ⟨A0, c0, A1, c1, A2, c2, rfl, h⟩; rfl
  one := by rintro Γ cs x ⟨A0, c0, A1, c1, A2, c2, rfl, h⟩ u hu; simp only [Dmend_Step.cs, List.mem_cons, List.not_mem_nil, or_false] at hu; rcases hu with rfl | rfl | rfl <;> rfl
  mono := by rintro Γ Δ cs x ⟨A0, c0, A1, c1, A2, c2, rfl, h⟩ hs; exact ⟨A0, c0, A1, c1, A2, c2, rfl, Dmend_Step.fits_mono h hs⟩
theorem Sl.dmend_StepT_at {Γ : Gh} {A : Option Addr} {xs : List Dmend_Step} (h : Sl dmend_StepT Γ A xs) (i : Nat) : ∃ A0 c0 A1 c1 A2 c2, i < xs.length → Dmend_Step.fits Γ A0 c0 A1 c1 A2 c2 (gt xs i) ∧ Cells Γ A (i * 3) (Dmend_Step.cs A0 c0 A1 c1 A2 c2 (gt xs i)) := by
  by_cases hi : i < xs.length
  · obtain ⟨cs, ⟨A0, c0, A1, c1, A2, c2, rfl, h⟩, h2⟩ := h.get i hi
    exact ⟨A0, c0, A1, c1, A2, c2, fun _ => ⟨h, h2⟩⟩
  · exact ⟨none, 0, none, 0, none, 0, fun h => absurd h hi⟩
theorem Own.dmend_StepT_at {Γ : Gh} {A : Option Addr} {xs : List Dmend_Step} {e c : Nat} {row : Rowb} (h : Own dmend_StepT Γ e row A c xs) (i : Nat) : ∃ A0 c0 A1 c1 A2 c2, i < xs.length → Dmend_Step.fits Γ A0 c0 A1 c1 A2 c2 (gt xs i) ∧ OCells row A (i * 3) (Dmend_Step.cs A0 c0 A1 c1 A2 c2 (gt xs i)) := by
  by_cases hi : i < xs.length
  · obtain ⟨cs, ⟨A0, c0, A1, c1, A2, c2, rfl, h⟩, h2⟩ := h.get hi
    exact ⟨A0, c0, A1, c1, A2, c2, fun _ => ⟨h, h2⟩⟩
  · exact ⟨none, 0, none, 0, none, 0, fun h => absurd h hi⟩
structure Dfirthref14_Step where
  path : (List Int)
  hashes : (List Int)
  recs : (List Rec)
  deriving Inhabited, DecidableEq
def Dfirthref14_Step.bk (v : Dfirthref14_Step) : Nat := 1 + (bkL bkOne) v.path + (bkL bkOne) v.hashes + (bkL Rec.bk) v.recs
abbrev Dfirthref14_Step.fits (Γ : Gh) (A0 : Option Addr) (c0 : Nat) (A1 : Option Addr) (c1 : Nat) (A2 : Option Addr) (c2 : Nat) (x : Dfirthref14_Step) : Prop := (x.path.length ≤ c0 ∧ Sl intT Γ A0 x.path) ∧ (x.hashes.length ≤ c1 ∧ Sl u64T Γ A1 x.hashes) ∧ (x.recs.length ≤ c2 ∧ Sl recT Γ A2 x.recs)
abbrev Dfirthref14_Step.cs (A0 : Option Addr) (c0 : Nat) (A1 : Option Addr) (c1 : Nat) (A2 : Option Addr) (c2 : Nat) (x : Dfirthref14_Step) : List Value := [.slice A0 x.path.length c0, .slice A1 x.hashes.length c1, .slice A2 x.recs.length c2]
theorem Dfirthref14_Step.fits_mono {Γ Δ : Gh} {A0 : Option Addr} {c0 : Nat} {A1 : Option Addr} {c1 : Nat} {A2 : Option Addr} {c2 : Nat} {x : Dfirthref14_Step} (h : Dfirthref14_Step.fits Γ A0 c0 A1 c1 A2 c2 x) (hs : Γ.le Δ) : Dfirthref14_Step.fits Δ A0 c0 A1 c1 A2 c2 x := by
  obtain ⟨h0, h1, h2⟩ := h
  exact ⟨⟨h0.1, h0.2.mono hs⟩, ⟨h1.1, h1.2.mono hs⟩, ⟨h2.1, h2.2.mono hs⟩⟩
def dfirthref14_StepT : Ty Dfirthref14_Step where
  n := 3
  pos := by decide
  rd := fun Γ cs x => ∃ A0 c0 A1 c1 A2 c2, cs = Dfirthref14_Step.cs A0 c0 A1 c1 A2 c2 x ∧ Dfirthref14_Step.fits Γ A0 c0 A1 c1 A2 c2 x
  len := by rintro Γ cs x ⟨A0, c0, A1, c1, A2, c2, rfl, h⟩; rfl
  one := by rintro Γ cs x ⟨A0, c0, A1, c1, A2, c2, rfl, h⟩ u hu; simp only [Dfirthref14_Step.cs, List.mem_cons, List.not_mem_nil, or_false] at hu; rcases hu with rfl | rfl | rfl <;> rfl
  mono := by rintro Γ Δ cs x ⟨A0, c0, A1, c1, A2, c2, rfl, h⟩ hs; exact ⟨A0, c0, A1, c1, A2, c2, rfl, Dfirthref14_Step.fits_mono h hs⟩
theorem Sl.dfirthref14_StepT_at {Γ : Gh} {A : Option Addr} {xs : List Dfirthref14_Step} (h : Sl dfirthref14_StepT Γ A xs) (i : Nat) : ∃ A0 c0 A1 c1 A2 c2, i < xs.length → Dfirthref14_Step.fits Γ A0 c0 A1 c1 A2 c2 (gt xs i) ∧ Cells Γ A (i * 3) (Dfirthref14_Step.cs A0 c0 A1 c1 A2 c2 (gt xs i)) := by
  by_cases hi : i < xs.length
  · obtain ⟨cs, ⟨A0, c0, A1, c1, A2, c2, rfl, h⟩, h2⟩ := h.get i hi
    exact ⟨A0, c0, A1, c1, A2, c2, fun _ => ⟨h, h2⟩⟩
  · exact ⟨none, 0, none, 0, none, 0, fun h => absurd h hi⟩
theorem Own.dfirthref14_StepT_at {Γ : Gh} {A : Option Addr} {xs : List Dfirthref14_Step} {e c : Nat} {row : Rowb} (h : Own dfirthref14_StepT Γ e row A c xs) (i : Nat) : ∃ A0 c0 A1 c1 A2 c2, i < xs.length → Dfirthref14_Step.fits Γ A0 c0 A1 c1 A2 c2 (gt xs i) ∧ OCells row A (i * 3) (Dfirthref14_Step.cs A0 c0 A1 c1 A2 c2 (gt xs i)) := by
  by_cases hi : i < xs.length
  · obtain ⟨cs, ⟨A0, c0, A1, c1, A2, c2, rfl, h⟩, h2⟩ := h.get hi
    exact ⟨A0, c0, A1, c1, A2, c2, fun _ => ⟨h, h2⟩⟩
  · exact ⟨none, 0, none, 0, none, 0, fun h => absurd h hi⟩
end Fw
end Go.Proofs.YtbidmceookkapaaGreat
