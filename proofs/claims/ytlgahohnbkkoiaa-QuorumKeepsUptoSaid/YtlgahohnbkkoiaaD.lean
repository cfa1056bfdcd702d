/- The data types of the program, as Lean structures, and what they are in memory. No condition. -/
import Derived.Test.YtlgahohnbkkoiaaK10
namespace Go.Proofs.Ytlgahohnbkkoiaa
namespace Fw
set_option linter.unusedVariables false
set_option linter.unusedSimpArgs false
set_option linter.unusedSectionVars false
open Go.RowKit
structure Druntime_boundsError where
  x_ : Int
  y : Int
  signed : Bool
  code : UInt8
  deriving Inhabited, DecidableEq
def Druntime_boundsError.bk (v : Druntime_boundsError) : Nat := 1 + bkOne v.x_ + bkOne v.y + bkOne v.signed + bkOne v.code
abbrev Druntime_boundsError.fits (Γ : Gh)  (x : Druntime_boundsError) : Prop := I64 x.x_ ∧ I64 x.y
abbrev Druntime_boundsError.cs  (x : Druntime_boundsError) : List Value := [.int .i64 x.x_, .int .i64 x.y, .bool x.signed, .int .u8 ((x.code.toNat : Nat) : Int)]
theorem Druntime_boundsError.fits_mono {Γ Δ : Gh}  {x : Druntime_boundsError} (h : Druntime_boundsError.fits Γ  x) (hs : Γ.le Δ) : Druntime_boundsError.fits Δ  x := by
  exact h
def druntime_boundsErrorT : Ty Druntime_boundsError where
  n := 4
  pos := by decide
  rd := fun Γ cs x => cs = Druntime_boundsError.cs  x ∧ Druntime_boundsError.fits Γ  x
  len := by rintro Γ cs x ⟨rfl, h⟩; rfl
  one := by rintro Γ cs x ⟨rfl, h⟩ u hu; simp only [Druntime_boundsError.cs, List.mem_cons, List.not_mem_nil, or_false] at hu; rcases hu with rfl | rfl | rfl | rfl <;> rfl
  mono := by rintro Γ Δ cs x ⟨rfl, h⟩ hs; exact ⟨rfl, Druntime_boundsError.fits_mono h hs⟩
theorem Sl.druntime_boundsErrorT_at {Γ : Gh} {A : Option Addr} {xs : List Druntime_boundsError} {i : Nat} (h : Sl druntime_boundsErrorT Γ A xs) (hi : i < xs.length) : Druntime_boundsError.fits Γ (gt xs i) ∧ Cells Γ A (i * 4) (Druntime_boundsError.cs (gt xs i)) := by
  obtain ⟨cs, ⟨rfl, h1⟩, h2⟩ := h.get i hi
  exact ⟨h1, h2⟩
theorem Own.druntime_boundsErrorT_at {Γ : Gh} {A : Option Addr} {xs : List Druntime_boundsError} {e c : Nat} {row : Rowb} {i : Nat} (h : Own druntime_boundsErrorT Γ e row A c xs) (hi : i < xs.length) : Druntime_boundsError.fits Γ (gt xs i) ∧ OCells row A (i * 4) (Druntime_boundsError.cs (gt xs i)) := by
  obtain ⟨cs, ⟨rfl, h1⟩, h2⟩ := h.get hi
  exact ⟨h1, h2⟩
structure Druntime_errorAddressString where
  msg : ByteArray
  addr : Int
  deriving Inhabited, DecidableEq
def Druntime_errorAddressString.bk (v : Druntime_errorAddressString) : Nat := 1 + bkStr v.msg + bkOne v.addr
abbrev Druntime_errorAddressString.fits (Γ : Gh)  (x : Druntime_errorAddressString) : Prop := x.msg.size ≤ lim ∧ U64 x.addr
abbrev Druntime_errorAddressString.cs  (x : Druntime_errorAddressString) : List Value := [.string x.msg, .int .u64 x.addr]
theorem Druntime_errorAddressString.fits_mono {Γ Δ : Gh}  {x : Druntime_errorAddressString} (h : Druntime_errorAddressString.fits Γ  x) (hs : Γ.le Δ) : Druntime_errorAddressString.fits Δ  x := by
  exact h
def druntime_errorAddressStringT : Ty Druntime_errorAddressString where
  n := 2
  pos := by decide
  rd := fun Γ cs x => cs = Druntime_errorAddressString.cs  x ∧ Druntime_errorAddressString.fits Γ  x
  len := by rintro Γ cs x ⟨rfl, h⟩; rfl
  one := by rintro Γ cs x ⟨rfl, h⟩ u hu; simp only [Druntime_errorAddressString.cs, List.mem_cons, List.not_mem_nil, or_false] at hu; rcases hu with rfl | rfl <;> rfl
  mono := by rintro Γ Δ cs x ⟨rfl, h⟩ hs; exact ⟨rfl, Druntime_errorAddressString.fits_mono h hs⟩
theorem Sl.druntime_errorAddressStringT_at {Γ : Gh} {A : Option Addr} {xs : List Druntime_errorAddressString} {i : Nat} (h : Sl druntime_errorAddressStringT Γ A xs) (hi : i < xs.length) : Druntime_errorAddressString.fits Γ (gt xs i) ∧ Cells Γ A (i * 2) (Druntime_errorAddressString.cs (gt xs i)) := by
  obtain ⟨cs, ⟨rfl, h1⟩, h2⟩ := h.get i hi
  exact ⟨h1, h2⟩
theorem Own.druntime_errorAddressStringT_at {Γ : Gh} {A : Option Addr} {xs : List Druntime_errorAddressString} {e c : Nat} {row : Rowb} {i : Nat} (h : Own druntime_errorAddressStringT Γ e row A c xs) (hi : i < xs.length) : Druntime_errorAddressString.fits Γ (gt xs i) ∧ OCells row A (i * 2) (Druntime_errorAddressString.cs (gt xs i)) := by
  obtain ⟨cs, ⟨rfl, h1⟩, h2⟩ := h.get hi
  exact ⟨h1, h2⟩
structure Dot where
  s : Int
  n : Int
  deriving Inhabited, DecidableEq
def Dot.bk (v : Dot) : Nat := 1 + bkOne v.s + bkOne v.n
abbrev Dot.fits (Γ : Gh)  (x : Dot) : Prop := I64 x.s ∧ I64 x.n
abbrev Dot.cs  (x : Dot) : List Value := [.int .i64 x.s, .int .i64 x.n]
theorem Dot.fits_mono {Γ Δ : Gh}  {x : Dot} (h : Dot.fits Γ  x) (hs : Γ.le Δ) : Dot.fits Δ  x := by
  exact h
def dotT : Ty Dot where
  n := 2
  pos := by decide
  rd := fun Γ cs x => cs = Dot.cs  x ∧ Dot.fits Γ  x
  len := by rintro Γ cs x ⟨rfl, h⟩; rfl
  one := by rintro Γ cs x ⟨rfl, h⟩ u hu; simp only [Dot.cs, List.mem_cons, List.not_mem_nil, or_false] at hu; rcases hu with rfl | rfl <;> rfl
  mono := by rintro Γ Δ cs x ⟨rfl, h⟩ hs; exact ⟨rfl, Dot.fits_mono h hs⟩
theorem Sl.dotT_at {Γ : Gh} {A : Option Addr} {xs : List Dot} {i : Nat} (h : Sl dotT Γ A xs) (hi : i < xs.length) : Dot.fits Γ (gt xs i) ∧ Cells Γ A (i * 2) (Dot.cs (gt xs i)) := by
  obtain ⟨cs, ⟨rfl, h1⟩, h2⟩ := h.get i hi
  exact ⟨h1, h2⟩
theorem Own.dotT_at {Γ : Gh} {A : Option Addr} {xs : List Dot} {e c : Nat} {row : Rowb} {i : Nat} (h : Own dotT Γ e row A c xs) (hi : i < xs.length) : Dot.fits Γ (gt xs i) ∧ OCells row A (i * 2) (Dot.cs (gt xs i)) := by
  obtain ⟨cs, ⟨rfl, h1⟩, h2⟩ := h.get hi
  exact ⟨h1, h2⟩
structure Span where
  s : Int
  f : Int
  t : Int
  deriving Inhabited, DecidableEq
def Span.bk (v : Span) : Nat := 1 + bkOne v.s + bkOne v.f + bkOne v.t
abbrev Span.fits (Γ : Gh)  (x : Span) : Prop := I64 x.s ∧ I64 x.f ∧ I64 x.t
abbrev Span.cs  (x : Span) : List Value := [.int .i64 x.s, .int .i64 x.f, .int .i64 x.t]
theorem Span.fits_mono {Γ Δ : Gh}  {x : Span} (h : Span.fits Γ  x) (hs : Γ.le Δ) : Span.fits Δ  x := by
  exact h
def spanT : Ty Span where
  n := 3
  pos := by decide
  rd := fun Γ cs x => cs = Span.cs  x ∧ Span.fits Γ  x
  len := by rintro Γ cs x ⟨rfl, h⟩; rfl
  one := by rintro Γ cs x ⟨rfl, h⟩ u hu; simp only [Span.cs, List.mem_cons, List.not_mem_nil, or_false] at hu; rcases hu with rfl | rfl | rfl <;> rfl
  mono := by rintro Γ Δ cs x ⟨rfl, h⟩ hs; exact ⟨rfl, Span.fits_mono h hs⟩
theorem Sl.spanT_at {Γ : Gh} {A : Option Addr} {xs : List Span} {i : Nat} (h : Sl spanT Γ A xs) (hi : i < xs.length) : Span.fits Γ (gt xs i) ∧ Cells Γ A (i * 3) (Span.cs (gt xs i)) := by
  obtain ⟨cs, ⟨rfl, h1⟩, h2⟩ := h.get i hi
  exact ⟨h1, h2⟩
theorem Own.spanT_at {Γ : Gh} {A : Option Addr} {xs : List Span} {e c : Nat} {row : Rowb} {i : Nat} (h : Own spanT Γ e row A c xs) (hi : i < xs.length) : Span.fits Γ (gt xs i) ∧ OCells row A (i * 3) (Span.cs (gt xs i)) := by
  obtain ⟨cs, ⟨rfl, h1⟩, h2⟩ := h.get hi
  exact ⟨h1, h2⟩
structure Ver where
  dot : Dot
  past : (List Span)
  gone : Bool
  val : ByteArray
  deriving Inhabited, DecidableEq
def Ver.bk (v : Ver) : Nat := 1 + Dot.bk v.dot + (bkL Span.bk) v.past + bkOne v.gone + bkStr v.val
abbrev Ver.fits (Γ : Gh) (A2 : Option Addr) (c2 : Nat) (x : Ver) : Prop := I64 x.dot.s ∧ I64 x.dot.n ∧ (x.past.length ≤ c2 ∧ Sl spanT Γ A2 x.past) ∧ x.val.size ≤ lim
abbrev Ver.cs (A2 : Option Addr) (c2 : Nat) (x : Ver) : List Value := [.int .i64 x.dot.s, .int .i64 x.dot.n, .slice A2 x.past.length c2, .bool x.gone, .string x.val]
theorem Ver.fits_mono {Γ Δ : Gh} {A2 : Option Addr} {c2 : Nat} {x : Ver} (h : Ver.fits Γ A2 c2 x) (hs : Γ.le Δ) : Ver.fits Δ A2 c2 x := by
  obtain ⟨h0, h1, h2, h3⟩ := h
  exact ⟨h0, h1, ⟨h2.1, h2.2.mono hs⟩, h3⟩
def verT : Ty Ver where
  n := 5
  pos := by decide
  rd := fun Γ cs x => ∃ A2 c2, cs = Ver.cs A2 c2 x ∧ Ver.fits Γ A2 c2 x
  len := by rintro Γ cs x ⟨A2, c2, rfl, h⟩; rfl
  one := by rintro Γ cs x ⟨A2, c2, rfl, h⟩ u hu; simp only [Ver.cs, List.mem_cons, List.not_mem_nil, or_false] at hu; rcases hu with rfl | rfl | rfl | rfl | rfl <;> rfl
  mono := by rintro Γ Δ cs x ⟨A2, c2, rfl, h⟩ hs; exact ⟨A2, c2, rfl, Ver.fits_mono h hs⟩
theorem Sl.verT_at {Γ : Gh} {A : Option Addr} {xs : List Ver} (h : Sl verT Γ A xs) (i : Nat) : ∃ A2 c2, i < xs.length → Ver.fits Γ A2 c2 (gt xs i) ∧ Cells Γ A (i * 5) (Ver.cs A2 c2 (gt xs i)) := by
  by_cases hi : i < xs.length
  · obtain ⟨cs, ⟨A2, c2, rfl, h⟩, h2⟩ := h.get i hi
    exact ⟨A2, c2, fun _ => ⟨h, h2⟩⟩
  · exact ⟨none, 0, fun h => absurd h hi⟩
theorem Own.verT_at {Γ : Gh} {A : Option Addr} {xs : List Ver} {e c : Nat} {row : Rowb} (h : Own verT Γ e row A c xs) (i : Nat) : ∃ A2 c2, i < xs.length → Ver.fits Γ A2 c2 (gt xs i) ∧ OCells row A (i * 5) (Ver.cs A2 c2 (gt xs i)) := by
  by_cases hi : i < xs.length
  · obtain ⟨cs, ⟨A2, c2, rfl, h⟩, h2⟩ := h.get hi
    exact ⟨A2, c2, fun _ => ⟨h, h2⟩⟩
  · exact ⟨none, 0, fun h => absurd h hi⟩
structure Rec where
  key : ByteArray
  vers : (List Ver)
  deriving Inhabited, DecidableEq
def Rec.bk (v : Rec) : Nat := 1 + bkStr v.key + (bkL Ver.bk) v.vers
abbrev Rec.fits (Γ : Gh) (A1 : Option Addr) (c1 : Nat) (x : Rec) : Prop := x.key.size ≤ lim ∧ (x.vers.length ≤ c1 ∧ Sl verT Γ A1 x.vers)
abbrev Rec.cs (A1 : Option Addr) (c1 : Nat) (x : Rec) : List Value := [.string x.key, .slice A1 x.vers.length c1]
theorem Rec.fits_mono {Γ Δ : Gh} {A1 : Option Addr} {c1 : Nat} {x : Rec} (h : Rec.fits Γ A1 c1 x) (hs : Γ.le Δ) : Rec.fits Δ A1 c1 x := by
  obtain ⟨h0, h1⟩ := h
  exact ⟨h0, ⟨h1.1, h1.2.mono hs⟩⟩
def recT : Ty Rec where
  n := 2
  pos := by decide
  rd := fun Γ cs x => ∃ A1 c1, cs = Rec.cs A1 c1 x ∧ Rec.fits Γ A1 c1 x
  len := by rintro Γ cs x ⟨A1, c1, rfl, h⟩; rfl
  one := by rintro Γ cs x ⟨A1, c1, rfl, h⟩ u hu; simp only [Rec.cs, List.mem_cons, List.not_mem_nil, or_false] at hu; rcases hu with rfl | rfl <;> rfl
  mono := by rintro Γ Δ cs x ⟨A1, c1, rfl, h⟩ hs; exact ⟨A1, c1, rfl, Rec.fits_mono h hs⟩
theorem Sl.recT_at {Γ : Gh} {A : Option Addr} {xs : List Rec} (h : Sl recT Γ A xs) (i : Nat) : ∃ A1 c1, i < xs.length → Rec.fits Γ A1 c1 (gt xs i) ∧ Cells Γ A (i * 2) (Rec.cs A1 c1 (gt xs i)) := by
  by_cases hi : i < xs.length
  · obtain ⟨cs, ⟨A1, c1, rfl, h⟩, h2⟩ := h.get i hi
    exact ⟨A1, c1, fun _ => ⟨h, h2⟩⟩
  · exact ⟨none, 0, fun h => absurd h hi⟩
theorem Own.recT_at {Γ : Gh} {A : Option Addr} {xs : List Rec} {e c : Nat} {row : Rowb} (h : Own recT Γ e row A c xs) (i : Nat) : ∃ A1 c1, i < xs.length → Rec.fits Γ A1 c1 (gt xs i) ∧ OCells row A (i * 2) (Rec.cs A1 c1 (gt xs i)) := by
  by_cases hi : i < xs.length
  · obtain ⟨cs, ⟨A1, c1, rfl, h⟩, h2⟩ := h.get hi
    exact ⟨A1, c1, fun _ => ⟨h, h2⟩⟩
  · exact ⟨none, 0, fun h => absurd h hi⟩
structure Dfirthlaw16_Reply where
  node : Int
  vers : (List Ver)
  recs : (List Rec)
  deriving Inhabited, DecidableEq
def Dfirthlaw16_Reply.bk (v : Dfirthlaw16_Reply) : Nat := 1 + bkOne v.node + (bkL Ver.bk) v.vers + (bkL Rec.bk) v.recs
abbrev Dfirthlaw16_Reply.fits (Γ : Gh) (A1 : Option Addr) (c1 : Nat) (A2 : Option Addr) (c2 : Nat) (x : Dfirthlaw16_Reply) : Prop := I64 x.node ∧ (x.vers.length ≤ c1 ∧ Sl verT Γ A1 x.vers) ∧ (x.recs.length ≤ c2 ∧ Sl recT Γ A2 x.recs)
abbrev Dfirthlaw16_Reply.cs (A1 : Option Addr) (c1 : Nat) (A2 : Option Addr) (c2 : Nat) (x : Dfirthlaw16_Reply) : List Value := [.int .i64 x.node, .slice A1 x.vers.length c1, .slice A2 x.recs.length c2]
theorem Dfirthlaw16_Reply.fits_mono {Γ Δ : Gh} {A1 : Option Addr} {c1 : Nat} {A2 : Option Addr} {c2 : Nat} {x : Dfirthlaw16_Reply} (h : Dfirthlaw16_Reply.fits Γ A1 c1 A2 c2 x) (hs : Γ.le Δ) : Dfirthlaw16_Reply.fits Δ A1 c1 A2 c2 x := by
  obtain ⟨h0, h1, h2⟩ := h
  exact ⟨h0, ⟨h1.1, h1.2.mono hs⟩, ⟨h2.1, h2.2.mono hs⟩⟩
def dfirthlaw16_ReplyT : Ty Dfirthlaw16_Reply where
  n := 3
  pos := by decide
  rd := fun Γ cs x => ∃ A1 c1 A2 c2, cs = Dfirthlaw16_Reply.cs A1 c1 A2 c2 x ∧ Dfirthlaw16_Reply.fits Γ A1 c1 A2 c2 x
  len := by rintro Γ cs x ⟨A1, c1, A2, c2, rfl, h⟩; rfl
  one := by rintro Γ cs x ⟨A1, c1, A2, c2, rfl, h⟩ u hu; simp only [Dfirthlaw16_Reply.cs, List.mem_cons, List.not_mem_nil, or_false] at hu; rcases hu with rfl | rfl | rfl <;> rfl
  mono := by rintro Γ Δ cs x ⟨A1, c1, A2, c2, rfl, h⟩ hs; exact ⟨A1, c1, A2, c2, rfl, Dfirthlaw16_Reply.fits_mono h hs⟩
theorem Sl.dfirthlaw16_ReplyT_at {Γ : Gh} {A : Option Addr} {xs : List Dfirthlaw16_Reply} (h : Sl dfirthlaw16_ReplyT Γ A xs) (i : Nat) : ∃ A1 c1 A2 c2, i < xs.length → Dfirthlaw16_Reply.fits Γ A1 c1 A2 c2 (gt xs i) ∧ Cells Γ A (i * 3) (Dfirthlaw16_Reply.cs A1 c1 A2 c2 (gt xs i)) := by
  by_cases hi : i < xs.length
  · obtain ⟨cs, ⟨A1, c1, A2, c2, rfl, h⟩, h2⟩ := h.get i hi
    exact ⟨A1, c1, A2, c2, fun _ => ⟨h, h2⟩⟩
  · exact ⟨none, 0, none, 0, fun h => absurd h hi⟩
theorem Own.dfirthlaw16_ReplyT_at {Γ : Gh} {A : Option Addr} {xs : List Dfirthlaw16_Reply} {e c : Nat} {row : Rowb} (h : Own dfirthlaw16_ReplyT Γ e row A c xs) (i : Nat) : ∃ A1 c1 A2 c2, i < xs.length → Dfirthlaw16_Reply.fits Γ A1 c1 A2 c2 (gt xs i) ∧ OCells row A (i * 3) (Dfirthlaw16_Reply.cs A1 c1 A2 c2 (gt xs i)) := by
  by_cases hi : i < xs.length
  · obtain ⟨cs, ⟨A1, c1, A2, c2, rfl, h⟩, h2⟩ := h.get hi
    exact ⟨A1, c1, A2, c2, fun _ => ⟨h, h2⟩⟩
  · exact ⟨none, 0, none, 0, fun h => absurd h hi⟩
structure Dfirthlaw16_Meet where
  n : Int
  w_ : Int
  r : Int
  took : (List Int)
  asked : (List Int)
  deriving Inhabited, DecidableEq
def Dfirthlaw16_Meet.bk (v : Dfirthlaw16_Meet) : Nat := 1 + bkOne v.n + bkOne v.w_ + bkOne v.r + (bkL bkOne) v.took + (bkL bkOne) v.asked
abbrev Dfirthlaw16_Meet.fits (Γ : Gh) (A3 : Option Addr) (c3 : Nat) (A4 : Option Addr) (c4 : Nat) (x : Dfirthlaw16_Meet) : Prop := I64 x.n ∧ I64 x.w_ ∧ I64 x.r ∧ (x.took.length ≤ c3 ∧ Sl intT Γ A3 x.took) ∧ (x.asked.length ≤ c4 ∧ Sl intT Γ A4 x.asked)
abbrev Dfirthlaw16_Meet.cs (A3 : Option Addr) (c3 : Nat) (A4 : Option Addr) (c4 : Nat) (x : Dfirthlaw16_Meet) : List Value := [.int .i64 x.n, .int .i64 x.w_, .int .i64 x.r, .slice A3 x.took.length c3, .slice A4 x.asked.length c4]
theorem Dfirthlaw16_Meet.fits_mono {Γ Δ : Gh} {A3 : Option Addr} {c3 : Nat} {A4 : Option Addr} {c4 : Nat} {x : Dfirthlaw16_Meet} (h : Dfirthlaw16_Meet.fits Γ A3 c3 A4 c4 x) (hs : Γ.le Δ) : Dfirthlaw16_Meet.fits Δ A3 c3 A4 c4 x := by
  obtain ⟨h0, h1, h2, h3, h4⟩ := h
  exact ⟨h0, h1, h2, ⟨h3.1, h3.2.mono hs⟩, ⟨h4.1, h4.2.mono hs⟩⟩
def dfirthlaw16_MeetT : Ty Dfirthlaw16_Meet where
  n := 5
  pos := by decide
  rd := fun Γ cs x => ∃ A3 c3 A4 c4, cs = Dfirthlaw16_Meet.cs A3 c3 A4 c4 x ∧ Dfirthlaw16_Meet.fits Γ A3 c3 A4 c4 x
  len := by rintro Γ cs x ⟨A3, c3, A4, c4, rfl, h⟩; rfl
  one := by rintro Γ cs x ⟨A3, c3, A4, c4, rfl, h⟩ u hu; simp only [Dfirthlaw16_Meet.cs, List.mem_cons, List.not_mem_nil, or_false] at hu; rcases hu with rfl | rfl | rfl | rfl | rfl <;> rfl
  mono := by rintro Γ Δ cs x ⟨A3, c3, A4, c4, rfl, h⟩ hs; exact ⟨A3, c3, A4, c4, rfl, Dfirthlaw16_Meet.fits_mono h hs⟩
theorem Sl.dfirthlaw16_MeetT_at {Γ : Gh} {A : Option Addr} {xs : List Dfirthlaw16_Meet} (h : Sl dfirthlaw16_MeetT Γ A xs) (i : Nat) : ∃ A3 c3 A4 c4, i < xs.length → Dfirthlaw16_Meet.fits Γ A3 c3 A4 c4 (gt xs i) ∧ Cells Γ A (i * 5) (Dfirthlaw16_Meet.cs A3 c3 A4 c4 (gt xs i)) := by
  by_cases hi : i < xs.length
  · obtain ⟨cs, ⟨A3, c3, A4, c4, rfl, h⟩, h2⟩ := h.get i hi
    exact ⟨A3, c3, A4, c4, fun _ => ⟨h, h2⟩⟩
  · exact ⟨none, 0, none, 0, fun h => absurd h hi⟩
theorem Own.dfirthlaw16_MeetT_at {Γ : Gh} {A : Option Addr} {xs : List Dfirthlaw16_Meet} {e c : Nat} {row : Rowb} (h : Own dfirthlaw16_MeetT Γ e row A c xs) (i : Nat) : ∃ A3 c3 A4 c4, i < xs.length → Dfirthlaw16_Meet.fits Γ A3 c3 A4 c4 (gt xs i) ∧ OCells row A (i * 5) (Dfirthlaw16_Meet.cs A3 c3 A4 c4 (gt xs i)) := by
  by_cases hi : i < xs.length
  · obtain ⟨cs, ⟨A3, c3, A4, c4, rfl, h⟩, h2⟩ := h.get hi
    exact ⟨A3, c3, A4, c4, fun _ => ⟨h, h2⟩⟩
  · exact ⟨none, 0, none, 0, fun h => absurd h hi⟩
structure Dfirthref16_Ask where
  list : (List Int)
  need : Int
  in_ : (List Bool)
  vers : (List (List Ver))
  recs : (List (List Rec))
  deriving Inhabited, DecidableEq
def Dfirthref16_Ask.bk (v : Dfirthref16_Ask) : Nat := 1 + (bkL bkOne) v.list + bkOne v.need + (bkL bkOne) v.in_ + (bkL (bkL Ver.bk)) v.vers + (bkL (bkL Rec.bk)) v.recs
abbrev Dfirthref16_Ask.fits (Γ : Gh) (A0 : Option Addr) (c0 : Nat) (A2 : Option Addr) (c2 : Nat) (A3 : Option Addr) (c3 : Nat) (A4 : Option Addr) (c4 : Nat) (x : Dfirthref16_Ask) : Prop := (x.list.length ≤ c0 ∧ Sl intT Γ A0 x.list) ∧ I64 x.need ∧ (x.in_.length ≤ c2 ∧ Sl boolT Γ A2 x.in_) ∧ (x.vers.length ≤ c3 ∧ Sl (slT verT) Γ A3 x.vers) ∧ (x.recs.length ≤ c4 ∧ Sl (slT recT) Γ A4 x.recs)
abbrev Dfirthref16_Ask.cs (A0 : Option Addr) (c0 : Nat) (A2 : Option Addr) (c2 : Nat) (A3 : Option Addr) (c3 : Nat) (A4 : Option Addr) (c4 : Nat) (x : Dfirthref16_Ask) : List Value := [.slice A0 x.list.length c0, .int .i64 x.need, .slice A2 x.in_.length c2, .slice A3 x.vers.length c3, .slice A4 x.recs.length c4]
theorem Dfirthref16_Ask.fits_mono {Γ Δ : Gh} {A0 : Option Addr} {c0 : Nat} {A2 : Option Addr} {c2 : Nat} {A3 : Option Addr} {c3 : Nat} {A4 : Option Addr} {c4 : Nat} {x : Dfirthref16_Ask} (h : Dfirthref16_Ask.fits Γ A0 c0 A2 c2 A3 c3 A4 c4 x) (hs : Γ.le Δ) : Dfirthref16_Ask.fits Δ A0 c0 A2 c2 A3 c3 A4 c4 x := by
  obtain ⟨h0, h1, h2, h3, h4⟩ := h
  exact ⟨⟨h0.1, h0.2.mono hs⟩, h1, ⟨h2.1, h2.2.mono hs⟩, ⟨h3.1, h3.2.mono hs⟩, ⟨h4.1, h4.2.mono hs⟩⟩
def dfirthref16_AskT : Ty Dfirthref16_Ask where
  n := 5
  pos := by decide
  rd := fun Γ cs x => ∃ A0 c0 A2 c2 A3 c3 A4 c4, cs = Dfirthref16_Ask.cs A0 c0 A2 c2 A3 c3 A4 c4 x ∧ Dfirthref16_Ask.fits Γ A0 c0 A2 c2 A3 c3 A4 c4 x
  len := by rintro Γ cs x ⟨A0, c0, A2, c2, A3, c3, A4, c4, rfl, h⟩; rfl
  one := by rintro Γ cs x ⟨A0, c0, A2, c2, A3, c3, A4, c4, rfl, h⟩ u hu; simp only [Dfirthref16_Ask.cs, List.mem_cons, List.not_mem_nil, or_false] at hu; rcases hu with rfl | rfl | rfl | rfl | rfl <;> rfl
  mono := by rintro Γ Δ cs x ⟨A0, c0, A2, c2, A3, c3, A4, c4, rfl, h⟩ hs; exact ⟨A0, c0, A2, c2, A3, c3, A4, c4, rfl, Dfirthref16_Ask.fits_mono h hs⟩
theorem Sl.dfirthref16_AskT_at {Γ : Gh} {A : Option Addr} {xs : List Dfirthref16_Ask} (h : Sl dfirthref16_AskT Γ A xs) (i : Nat) : ∃ A0 c0 A2 c2 A3 c3 A4 c4, i < xs.length → Dfirthref16_Ask.fits Γ A0 c0 A2 c2 A3 c3 A4 c4 (gt xs i) ∧ Cells Γ A (i * 5) (Dfirthref16_Ask.cs A0 c0 A2 c2 A3 c3 A4 c4 (gt xs i)) := by
  by_cases hi : i < xs.length
  · obtain ⟨cs, ⟨A0, c0, A2, c2, A3, c3, A4, c4, rfl, h⟩, h2⟩ := h.get i hi
    exact ⟨A0, c0, A2, c2, A3, c3, A4, c4, fun _ => ⟨h, h2⟩⟩
  · exact ⟨none, 0, none, 0, none, 0, none, 0, fun h => absurd h hi⟩
theorem Own.dfirthref16_AskT_at {Γ : Gh} {A : Option Addr} {xs : List Dfirthref16_Ask} {e c : Nat} {row : Rowb} (h : Own dfirthref16_AskT Γ e row A c xs) (i : Nat) : ∃ A0 c0 A2 c2 A3 c3 A4 c4, i < xs.length → Dfirthref16_Ask.fits Γ A0 c0 A2 c2 A3 c3 A4 c4 (gt xs i) ∧ OCells row A (i * 5) (Dfirthref16_Ask.cs A0 c0 A2 c2 A3 c3 A4 c4 (gt xs i)) := by
  by_cases hi : i < xs.length
  · obtain ⟨cs, ⟨A0, c0, A2, c2, A3, c3, A4, c4, rfl, h⟩, h2⟩ := h.get hi
    exact ⟨A0, c0, A2, c2, A3, c3, A4, c4, fun _ => ⟨h, h2⟩⟩
  · exact ⟨none, 0, none, 0, none, 0, none, 0, fun h => absurd h hi⟩
end Fw
end Go.Proofs.Ytlgahohnbkkoiaa
