/- The data types of the program, as Lean structures, and what they are in memory. No condition. -/
import Derived.Test.YtlfmppjcgaekhaaGreatK10
namespace Go.Proofs.YtlfmppjcgaekhaaGreat
namespace Fw
set_option linter.unusedVariables false
set_option linter.unusedSimpArgs false
set_option linter.unusedSectionVars false
open Go.RowKit
structure b9 where
 x_ : Int
 y : Int
 signed : Bool
 code : UInt8
 deriving Inhabited, DecidableEq
def b9.bk (v : b9) : Nat := 1 + b3 v.x_ + b3 v.y + b3 v.signed + b3 v.code
abbrev b9.fits (Γ : Gh)  (x : b9) : Prop := I64 x.x_ ∧ I64 x.y
abbrev b9.cs  (x : b9) : List Value := [.int .i64 x.x_, .int .i64 x.y, .bool x.signed, .int .u8 (x.code.toNat : Int)]
theorem b9.fits_mono {Γ Δ : Gh}  {x : b9} (h : b9.fits Γ  x) (hs : Γ.le Δ) : b9.fits Δ  x := by
 exact h
structure aG where
 msg : ByteArray
 addr : Int
 deriving Inhabited, DecidableEq
def aG.bk (v : aG) : Nat := 1 + rh v.msg + b3 v.addr
abbrev aG.fits (Γ : Gh)  (x : aG) : Prop := x.msg.size ≤ lim ∧ U64 x.addr
abbrev aG.cs  (x : aG) : List Value := [.string x.msg, .int .u64 x.addr]
theorem aG.fits_mono {Γ Δ : Gh}  {x : aG} (h : aG.fits Γ  x) (hs : Γ.le Δ) : aG.fits Δ  x := by
 exact h
structure aa where
 self : Int
 sites : Int
 links : (List Int)
 cap : Int
 base : Int
 members : (List Int)
 deriving Inhabited, DecidableEq
def aa.bk (v : aa) : Nat := 1 + b3 v.self + b3 v.sites + (bkL b3) v.links + b3 v.cap + b3 v.base + (bkL b3) v.members
abbrev aa.fits (Γ : Gh) (A2 : Option Addr) (c2 : Nat) (A5 : Option Addr) (c5 : Nat) (x : aa) : Prop := I64 x.self ∧ I64 x.sites ∧ (x.links.length ≤ c2 ∧ Sl intT Γ A2 x.links) ∧ I64 x.cap ∧ I64 x.base ∧ (x.members.length ≤ c5 ∧ Sl intT Γ A5 x.members)
abbrev aa.cs (A2 : Option Addr) (c2 : Nat) (A5 : Option Addr) (c5 : Nat) (x : aa) : List Value := [.int .i64 x.self, .int .i64 x.sites, .slice A2 x.links.length c2, .int .i64 x.cap, .int .i64 x.base, .slice A5 x.members.length c5]
theorem aa.fits_mono {Γ Δ : Gh} {A2 : Option Addr} {c2 : Nat} {A5 : Option Addr} {c5 : Nat} {x : aa} (h : aa.fits Γ A2 c2 A5 c5 x) (hs : Γ.le Δ) : aa.fits Δ A2 c2 A5 c5 x := by
 obtain ⟨h0, h1, h2, h3, h4, h5⟩ := h
 exact ⟨h0, h1, ⟨h2.1, h2.2.mono hs⟩, h3, h4, ⟨h5.1, h5.2.mono hs⟩⟩
def sN : Ty aa where
 n := 6
 pos := by decide
 rd := fun Γ cs x => ∃ A2 c2 A5 c5, cs = aa.cs A2 c2 A5 c5 x ∧ aa.fits Γ A2 c2 A5 c5 x
 len := by rintro Γ cs x ⟨A2, c2, A5, c5, rfl, h⟩; rfl
 one := by rintro Γ cs x ⟨A2, c2, A5, c5, rfl, h⟩ u hu; simp only [aa.cs, List.mem_cons, List.not_mem_nil, or_false] at hu; rcases hu with rfl | rfl | rfl | rfl | rfl | rfl <;> rfl
 mono := by rintro Γ Δ cs x ⟨A2, c2, A5, c5, rfl, h⟩ hs; exact ⟨A2, c2, A5, c5, rfl, aa.fits_mono h hs⟩
structure Dot where
 s : Int
 n : Int
 deriving Inhabited, DecidableEq
def Dot.bk (v : Dot) : Nat := 1 + b3 v.s + b3 v.n
abbrev Dot.fits (Γ : Gh)  (x : Dot) : Prop := I64 x.s ∧ I64 x.n
abbrev Dot.cs  (x : Dot) : List Value := [.int .i64 x.s, .int .i64 x.n]
theorem Dot.fits_mono {Γ Δ : Gh}  {x : Dot} (h : Dot.fits Γ  x) (hs : Γ.le Δ) : Dot.fits Δ  x := by
 exact h
structure Span where
 s : Int
 f : Int
 t : Int
 deriving Inhabited, DecidableEq
def Span.bk (v : Span) : Nat := 1 + b3 v.s + b3 v.f + b3 v.t
abbrev Span.fits (Γ : Gh)  (x : Span) : Prop := I64 x.s ∧ I64 x.f ∧ I64 x.t
abbrev Span.cs  (x : Span) : List Value := [.int .i64 x.s, .int .i64 x.f, .int .i64 x.t]
theorem Span.fits_mono {Γ Δ : Gh}  {x : Span} (h : Span.fits Γ  x) (hs : Γ.le Δ) : Span.fits Δ  x := by
 exact h
def iU : Ty Span where
 n := 3
 pos := by decide
 rd := fun Γ cs x => cs = Span.cs  x ∧ Span.fits Γ  x
 len := by rintro Γ cs x ⟨rfl, h⟩; rfl
 one := by rintro Γ cs x ⟨rfl, h⟩ u hu; simp only [Span.cs, List.mem_cons, List.not_mem_nil, or_false] at hu; rcases hu with rfl | rfl | rfl <;> rfl
 mono := by rintro Γ Δ cs x ⟨rfl, h⟩ hs; exact ⟨rfl, Span.fits_mono h hs⟩
theorem Sl.spanT_at {Γ : Gh} {A : Option Addr} {xs : List Span} {i : Nat} (h : Sl iU Γ A xs) (hi : i < xs.length) : Span.fits Γ (gt xs i) ∧ iO Γ A (i * 3) (Span.cs (gt xs i)) := by
 obtain ⟨cs, ⟨rfl, h1⟩, h2⟩ := h.get i hi
 exact ⟨h1, h2⟩
theorem Own.spanT_at {Γ : Gh} {A : Option Addr} {xs : List Span} {e c : Nat} {row : Rowb} {i : Nat} (h : Own iU Γ e row A c xs) (hi : i < xs.length) : Span.fits Γ (gt xs i) ∧ jL row A (i * 3) (Span.cs (gt xs i)) := by
 obtain ⟨cs, ⟨rfl, h1⟩, h2⟩ := h.get hi
 exact ⟨h1, h2⟩
structure Ver where
 dot : Dot
 past : (List Span)
 gone : Bool
 val : ByteArray
 deriving Inhabited, DecidableEq
def Ver.bk (v : Ver) : Nat := 1 + Dot.bk v.dot + (bkL Span.bk) v.past + b3 v.gone + rh v.val
abbrev Ver.fits (Γ : Gh) (A2 : Option Addr) (c2 : Nat) (x : Ver) : Prop := I64 x.dot.s ∧ I64 x.dot.n ∧ (x.past.length ≤ c2 ∧ Sl iU Γ A2 x.past) ∧ x.val.size ≤ lim
abbrev Ver.cs (A2 : Option Addr) (c2 : Nat) (x : Ver) : List Value := [.int .i64 x.dot.s, .int .i64 x.dot.n, .slice A2 x.past.length c2, .bool x.gone, .string x.val]
theorem Ver.fits_mono {Γ Δ : Gh} {A2 : Option Addr} {c2 : Nat} {x : Ver} (h : Ver.fits Γ A2 c2 x) (hs : Γ.le Δ) : Ver.fits Δ A2 c2 x := by
 obtain ⟨h0, h1, h2, h3⟩ := h
 exact ⟨h0, h1, ⟨h2.1, h2.2.mono hs⟩, h3⟩
def verT : Ty Ver where
 n := 5
 pos := by decide
 rd := fun Γ cs x => ∃ A2 c2, cs = Ver.cs A2 c2 x ∧ Ver.fits Γ A2 c2 x
 len := by rintro Γ cs x ⟨A2, c2, rfl, h⟩; rfl
 one := by rintro Γ cs x ⟨A2, c2, rfl, h⟩ u hu; simp only [Ver.cs, List.mem_cons, List.not_mem_nil, or_false] at hu; rcases hu with rfl | rfl | rfl | rfl | rfl <;> rfl
 mono := by rintro Γ Δ cs x ⟨A2, c2, rfl, h⟩ hs; exact ⟨A2, c2, rfl, Ver.fits_mono h hs⟩
theorem Sl.verT_at {Γ : Gh} {A : Option Addr} {xs : List Ver} (h : Sl verT Γ A xs) (i : Nat) : ∃ A2 c2, i < xs.length → Ver.fits Γ A2 c2 (gt xs i) ∧ iO Γ A (i * 5) (Ver.cs A2 c2 (gt xs i)) := by
 by_cases hi : i < xs.length
 ·obtain ⟨cs, ⟨A2, c2, rfl, h⟩, h2⟩ := h.get i hi
  exact ⟨A2, c2, fun _ => ⟨h, h2⟩⟩
 ·exact ⟨none, 0, fun h => absurd h hi⟩
theorem Own.verT_at {Γ : Gh} {A : Option Addr} {xs : List Ver} {e c : Nat} {row : Rowb} (h : Own verT Γ e row A c xs) (i : Nat) : ∃ A2 c2, i < xs.length → Ver.fits Γ A2 c2 (gt xs i) ∧ jL row A (i * 5) (Ver.cs A2 c2 (gt xs i)) := by
 by_cases hi : i < xs.length
 ·obtain ⟨cs, ⟨A2, c2, rfl, h⟩, h2⟩ := h.get hi
  exact ⟨A2, c2, fun _ => ⟨h, h2⟩⟩
 ·exact ⟨none, 0, fun h => absurd h hi⟩
structure Rec where
 key : ByteArray
 vers : (List Ver)
 deriving Inhabited, DecidableEq
def Rec.bk (v : Rec) : Nat := 1 + rh v.key + (bkL Ver.bk) v.vers
abbrev Rec.fits (Γ : Gh) (A1 : Option Addr) (c1 : Nat) (x : Rec) : Prop := x.key.size ≤ lim ∧ (x.vers.length ≤ c1 ∧ Sl verT Γ A1 x.vers)
abbrev Rec.cs (A1 : Option Addr) (c1 : Nat) (x : Rec) : List Value := [.string x.key, .slice A1 x.vers.length c1]
theorem Rec.fits_mono {Γ Δ : Gh} {A1 : Option Addr} {c1 : Nat} {x : Rec} (h : Rec.fits Γ A1 c1 x) (hs : Γ.le Δ) : Rec.fits Δ A1 c1 x := by
 obtain ⟨h0, h1⟩ := h
 exact ⟨h0, ⟨h1.1, h1.2.mono hs⟩⟩
def recT : Ty Rec where
 n := 2
 pos := by decide
 rd := fun Γ cs x => ∃ A1 c1, cs = Rec.cs A1 c1 x ∧ Rec.fits Γ A1 c1 x
 len := by rintro Γ cs x ⟨A1, c1, rfl, h⟩; rfl
 one := by rintro Γ cs x ⟨A1, c1, rfl, h⟩ u hu; simp only [Rec.cs, List.mem_cons, List.not_mem_nil, or_false] at hu; rcases hu with rfl | rfl <;> rfl
 mono := by rintro Γ Δ cs x ⟨A1, c1, rfl, h⟩ hs; exact ⟨A1, c1, rfl, Rec.fits_mono h hs⟩
theorem Sl.recT_at {Γ : Gh} {A : Option Addr} {xs : List Rec} (h : Sl recT Γ A xs) (i : Nat) : ∃ A1 c1, i < xs.length → Rec.fits Γ A1 c1 (gt xs i) ∧ iO Γ A (i * 2) (Rec.cs A1 c1 (gt xs i)) := by
 by_cases hi : i < xs.length
 ·obtain ⟨cs, ⟨A1, c1, rfl, h⟩, h2⟩ := h.get i hi
  exact ⟨A1, c1, fun _ => ⟨h, h2⟩⟩
 ·exact ⟨none, 0, fun h => absurd h hi⟩
theorem Own.recT_at {Γ : Gh} {A : Option Addr} {xs : List Rec} {e c : Nat} {row : Rowb} (h : Own recT Γ e row A c xs) (i : Nat) : ∃ A1 c1, i < xs.length → Rec.fits Γ A1 c1 (gt xs i) ∧ jL row A (i * 2) (Rec.cs A1 c1 (gt xs i)) := by
 by_cases hi : i < xs.length
 ·obtain ⟨cs, ⟨A1, c1, rfl, h⟩, h2⟩ := h.get hi
  exact ⟨A1, c1, fun _ => ⟨h, h2⟩⟩
 ·exact ⟨none, 0, fun h => absurd h hi⟩
structure aq where
 seq : Int
 rec_ : Rec
 route : (List Int)
 deriving Inhabited, DecidableEq
def aq.bk (v : aq) : Nat := 1 + b3 v.seq + Rec.bk v.rec_ + (bkL b3) v.route
abbrev aq.fits (Γ : Gh) (A2 : Option Addr) (c2 : Nat) (A3 : Option Addr) (c3 : Nat) (x : aq) : Prop := I64 x.seq ∧ x.rec_.key.size ≤ lim ∧ (x.rec_.vers.length ≤ c2 ∧ Sl verT Γ A2 x.rec_.vers) ∧ (x.route.length ≤ c3 ∧ Sl intT Γ A3 x.route)
abbrev aq.cs (A2 : Option Addr) (c2 : Nat) (A3 : Option Addr) (c3 : Nat) (x : aq) : List Value := [.int .i64 x.seq, .string x.rec_.key, .slice A2 x.rec_.vers.length c2, .slice A3 x.route.length c3]
theorem aq.fits_mono {Γ Δ : Gh} {A2 : Option Addr} {c2 : Nat} {A3 : Option Addr} {c3 : Nat} {x : aq} (h : aq.fits Γ A2 c2 A3 c3 x) (hs : Γ.le Δ) : aq.fits Δ A2 c2 A3 c3 x := by
 obtain ⟨h0, h1, h2, h3⟩ := h
 exact ⟨h0, h1, ⟨h2.1, h2.2.mono hs⟩, ⟨h3.1, h3.2.mono hs⟩⟩
def eC : Ty aq where
 n := 4
 pos := by decide
 rd := fun Γ cs x => ∃ A2 c2 A3 c3, cs = aq.cs A2 c2 A3 c3 x ∧ aq.fits Γ A2 c2 A3 c3 x
 len := by rintro Γ cs x ⟨A2, c2, A3, c3, rfl, h⟩; rfl
 one := by rintro Γ cs x ⟨A2, c2, A3, c3, rfl, h⟩ u hu; simp only [aq.cs, List.mem_cons, List.not_mem_nil, or_false] at hu; rcases hu with rfl | rfl | rfl | rfl <;> rfl
 mono := by rintro Γ Δ cs x ⟨A2, c2, A3, c3, rfl, h⟩ hs; exact ⟨A2, c2, A3, c3, rfl, aq.fits_mono h hs⟩
theorem Sl.dqueue_EntryT_at {Γ : Gh} {A : Option Addr} {xs : List aq} (h : Sl eC Γ A xs) (i : Nat) : ∃ A2 c2 A3 c3, i < xs.length → aq.fits Γ A2 c2 A3 c3 (gt xs i) ∧ iO Γ A (i * 4) (aq.cs A2 c2 A3 c3 (gt xs i)) := by
 by_cases hi : i < xs.length
 ·obtain ⟨cs, ⟨A2, c2, A3, c3, rfl, h⟩, h2⟩ := h.get i hi
  exact ⟨A2, c2, A3, c3, fun _ => ⟨h, h2⟩⟩
 ·exact ⟨none, 0, none, 0, fun h => absurd h hi⟩
theorem Own.dqueue_EntryT_at {Γ : Gh} {A : Option Addr} {xs : List aq} {e c : Nat} {row : Rowb} (h : Own eC Γ e row A c xs) (i : Nat) : ∃ A2 c2 A3 c3, i < xs.length → aq.fits Γ A2 c2 A3 c3 (gt xs i) ∧ jL row A (i * 4) (aq.cs A2 c2 A3 c3 (gt xs i)) := by
 by_cases hi : i < xs.length
 ·obtain ⟨cs, ⟨A2, c2, A3, c3, rfl, h⟩, h2⟩ := h.get hi
  exact ⟨A2, c2, A3, c3, fun _ => ⟨h, h2⟩⟩
 ·exact ⟨none, 0, none, 0, fun h => absurd h hi⟩
structure aE where
 self : Int
 sites : Int
 links : (List Int)
 cap : Int
 base : Int
 members : (List Int)
 deriving Inhabited, DecidableEq
def aE.bk (v : aE) : Nat := 1 + b3 v.self + b3 v.sites + (bkL b3) v.links + b3 v.cap + b3 v.base + (bkL b3) v.members
abbrev aE.fits (Γ : Gh) (A2 : Option Addr) (c2 : Nat) (A5 : Option Addr) (c5 : Nat) (x : aE) : Prop := I64 x.self ∧ I64 x.sites ∧ (x.links.length ≤ c2 ∧ Sl intT Γ A2 x.links) ∧ I64 x.cap ∧ I64 x.base ∧ (x.members.length ≤ c5 ∧ Sl intT Γ A5 x.members)
abbrev aE.cs (A2 : Option Addr) (c2 : Nat) (A5 : Option Addr) (c5 : Nat) (x : aE) : List Value := [.int .i64 x.self, .int .i64 x.sites, .slice A2 x.links.length c2, .int .i64 x.cap, .int .i64 x.base, .slice A5 x.members.length c5]
theorem aE.fits_mono {Γ Δ : Gh} {A2 : Option Addr} {c2 : Nat} {A5 : Option Addr} {c5 : Nat} {x : aE} (h : aE.fits Γ A2 c2 A5 c5 x) (hs : Γ.le Δ) : aE.fits Δ A2 c2 A5 c5 x := by
 obtain ⟨h0, h1, h2, h3, h4, h5⟩ := h
 exact ⟨h0, h1, ⟨h2.1, h2.2.mono hs⟩, h3, h4, ⟨h5.1, h5.2.mono hs⟩⟩
structure cj where
 kind : Int
 r : Rec
 list : (List Int)
 vec : (List Int)
 sink : Int
 seq : Int
 a : Int
 b : Int
 data : (List UInt8)
 deriving Inhabited, DecidableEq
def cj.bk (v : cj) : Nat := 1 + b3 v.kind + Rec.bk v.r + (bkL b3) v.list + (bkL b3) v.vec + b3 v.sink + b3 v.seq + b3 v.a + b3 v.b + (bkL b3) v.data
abbrev cj.fits (Γ : Gh) (A2 : Option Addr) (c2 : Nat) (A3 : Option Addr) (c3 : Nat) (A4 : Option Addr) (c4 : Nat) (A9 : Option Addr) (c9 : Nat) (x : cj) : Prop := I64 x.kind ∧ x.r.key.size ≤ lim ∧ (x.r.vers.length ≤ c2 ∧ Sl verT Γ A2 x.r.vers) ∧ (x.list.length ≤ c3 ∧ Sl intT Γ A3 x.list) ∧ (x.vec.length ≤ c4 ∧ Sl intT Γ A4 x.vec) ∧ I64 x.sink ∧ I64 x.seq ∧ I64 x.a ∧ I64 x.b ∧ (x.data.length ≤ c9 ∧ Sl av Γ A9 x.data)
abbrev cj.cs (A2 : Option Addr) (c2 : Nat) (A3 : Option Addr) (c3 : Nat) (A4 : Option Addr) (c4 : Nat) (A9 : Option Addr) (c9 : Nat) (x : cj) : List Value := [.int .i64 x.kind, .string x.r.key, .slice A2 x.r.vers.length c2, .slice A3 x.list.length c3, .slice A4 x.vec.length c4, .int .i64 x.sink, .int .i64 x.seq, .int .i64 x.a, .int .i64 x.b, .slice A9 x.data.length c9]
theorem cj.fits_mono {Γ Δ : Gh} {A2 : Option Addr} {c2 : Nat} {A3 : Option Addr} {c3 : Nat} {A4 : Option Addr} {c4 : Nat} {A9 : Option Addr} {c9 : Nat} {x : cj} (h : cj.fits Γ A2 c2 A3 c3 A4 c4 A9 c9 x) (hs : Γ.le Δ) : cj.fits Δ A2 c2 A3 c3 A4 c4 A9 c9 x := by
 obtain ⟨h0, h1, h2, h3, h4, h5, h6, h7, h8, h9⟩ := h
 exact ⟨h0, h1, ⟨h2.1, h2.2.mono hs⟩, ⟨h3.1, h3.2.mono hs⟩, ⟨h4.1, h4.2.mono hs⟩, h5, h6, h7, h8, ⟨h9.1, h9.2.mono hs⟩⟩
structure ar where
 r : Rec
 deriving Inhabited, DecidableEq
def ar.bk (v : ar) : Nat := 1 + Rec.bk v.r
abbrev ar.fits (Γ : Gh) (A1 : Option Addr) (c1 : Nat) (x : ar) : Prop := x.r.key.size ≤ lim ∧ (x.r.vers.length ≤ c1 ∧ Sl verT Γ A1 x.r.vers)
abbrev ar.cs (A1 : Option Addr) (c1 : Nat) (x : ar) : List Value := [.string x.r.key, .slice A1 x.r.vers.length c1]
theorem ar.fits_mono {Γ Δ : Gh} {A1 : Option Addr} {c1 : Nat} {x : ar} (h : ar.fits Γ A1 c1 x) (hs : Γ.le Δ) : ar.fits Δ A1 c1 x := by
 obtain ⟨h0, h1⟩ := h
 exact ⟨h0, ⟨h1.1, h1.2.mono hs⟩⟩
structure aj where
 route : (List Int)
 r : Rec
 deriving Inhabited, DecidableEq
def aj.bk (v : aj) : Nat := 1 + (bkL b3) v.route + Rec.bk v.r
abbrev aj.fits (Γ : Gh) (A0 : Option Addr) (c0 : Nat) (A2 : Option Addr) (c2 : Nat) (x : aj) : Prop := (x.route.length ≤ c0 ∧ Sl intT Γ A0 x.route) ∧ x.r.key.size ≤ lim ∧ (x.r.vers.length ≤ c2 ∧ Sl verT Γ A2 x.r.vers)
abbrev aj.cs (A0 : Option Addr) (c0 : Nat) (A2 : Option Addr) (c2 : Nat) (x : aj) : List Value := [.slice A0 x.route.length c0, .string x.r.key, .slice A2 x.r.vers.length c2]
theorem aj.fits_mono {Γ Δ : Gh} {A0 : Option Addr} {c0 : Nat} {A2 : Option Addr} {c2 : Nat} {x : aj} (h : aj.fits Γ A0 c0 A2 c2 x) (hs : Γ.le Δ) : aj.fits Δ A0 c0 A2 c2 x := by
 obtain ⟨h0, h1, h2⟩ := h
 exact ⟨⟨h0.1, h0.2.mono hs⟩, h1, ⟨h2.1, h2.2.mono hs⟩⟩
structure aB where
 entry : aq
 want : Nat
 deriving Inhabited, DecidableEq
def aB.bk (v : aB) : Nat := 1 + aq.bk v.entry + b3 v.want
abbrev aB.fits (Γ : Gh) (A2 : Option Addr) (c2 : Nat) (A3 : Option Addr) (c3 : Nat) (x : aB) : Prop := I64 x.entry.seq ∧ x.entry.rec_.key.size ≤ lim ∧ (x.entry.rec_.vers.length ≤ c2 ∧ Sl verT Γ A2 x.entry.rec_.vers) ∧ (x.entry.route.length ≤ c3 ∧ Sl intT Γ A3 x.entry.route)
abbrev aB.cs (A2 : Option Addr) (c2 : Nat) (A3 : Option Addr) (c3 : Nat) (x : aB) : List Value := [.int .i64 x.entry.seq, .string x.entry.rec_.key, .slice A2 x.entry.rec_.vers.length c2, .slice A3 x.entry.route.length c3, .map (some x.want)]
theorem aB.fits_mono {Γ Δ : Gh} {A2 : Option Addr} {c2 : Nat} {A3 : Option Addr} {c3 : Nat} {x : aB} (h : aB.fits Γ A2 c2 A3 c3 x) (hs : Γ.le Δ) : aB.fits Δ A2 c2 A3 c3 x := by
 obtain ⟨h0, h1, h2, h3⟩ := h
 exact ⟨h0, h1, ⟨h2.1, h2.2.mono hs⟩, ⟨h3.1, h3.2.mono hs⟩⟩
def ba : Ty aB where
 n := 5
 pos := by decide
 rd := fun Γ cs x => ∃ A2 c2 A3 c3, cs = aB.cs A2 c2 A3 c3 x ∧ aB.fits Γ A2 c2 A3 c3 x
 len := by rintro Γ cs x ⟨A2, c2, A3, c3, rfl, h⟩; rfl
 one := by rintro Γ cs x ⟨A2, c2, A3, c3, rfl, h⟩ u hu; simp only [aB.cs, List.mem_cons, List.not_mem_nil, or_false] at hu; rcases hu with rfl | rfl | rfl | rfl | rfl <;> rfl
 mono := by rintro Γ Δ cs x ⟨A2, c2, A3, c3, rfl, h⟩ hs; exact ⟨A2, c2, A3, c3, rfl, aB.fits_mono h hs⟩
theorem Sl.dqueue_entryT_at {Γ : Gh} {A : Option Addr} {xs : List aB} (h : Sl ba Γ A xs) (i : Nat) : ∃ A2 c2 A3 c3, i < xs.length → aB.fits Γ A2 c2 A3 c3 (gt xs i) ∧ iO Γ A (i * 5) (aB.cs A2 c2 A3 c3 (gt xs i)) := by
 by_cases hi : i < xs.length
 ·obtain ⟨cs, ⟨A2, c2, A3, c3, rfl, h⟩, h2⟩ := h.get i hi
  exact ⟨A2, c2, A3, c3, fun _ => ⟨h, h2⟩⟩
 ·exact ⟨none, 0, none, 0, fun h => absurd h hi⟩
theorem Own.dqueue_entryT_at {Γ : Gh} {A : Option Addr} {xs : List aB} {e c : Nat} {row : Rowb} (h : Own ba Γ e row A c xs) (i : Nat) : ∃ A2 c2 A3 c3, i < xs.length → aB.fits Γ A2 c2 A3 c3 (gt xs i) ∧ jL row A (i * 5) (aB.cs A2 c2 A3 c3 (gt xs i)) := by
 by_cases hi : i < xs.length
 ·obtain ⟨cs, ⟨A2, c2, A3, c3, rfl, h⟩, h2⟩ := h.get hi
  exact ⟨A2, c2, A3, c3, fun _ => ⟨h, h2⟩⟩
 ·exact ⟨none, 0, none, 0, fun h => absurd h hi⟩
structure ak where
 sink : Int
 seq : Int
 deriving Inhabited, DecidableEq
def ak.bk (v : ak) : Nat := 1 + b3 v.sink + b3 v.seq
abbrev ak.fits (Γ : Gh)  (x : ak) : Prop := I64 x.sink ∧ I64 x.seq
abbrev ak.cs  (x : ak) : List Value := [.int .i64 x.sink, .int .i64 x.seq]
theorem ak.fits_mono {Γ Δ : Gh}  {x : ak} (h : ak.fits Γ  x) (hs : Γ.le Δ) : ak.fits Δ  x := by
 exact h
inductive ah where
 | disk_add_1 (a0 : ByteArray) (a1 : (List UInt8))
 | disk_Disk_Cut_1 (a0 : ByteArray) (a1 : Int)
 | disk_Disk_Remove_1 (a0 : ByteArray)
 deriving Inhabited, DecidableEq
def ah.fid : ah → FuncId
 | .disk_add_1 _ _ => 95
 | .disk_Disk_Cut_1 _ _ => 187
 | .disk_Disk_Remove_1 _ => 193
def ah.caps : ah → Option Addr → Nat → Array Value
 | .disk_add_1 _ _, A, c => #[.pointer (some ⟨c, 0, none⟩), .pointer A]
 | .disk_Disk_Cut_1 _ _, A, c => #[.pointer (some ⟨c, 0, none⟩), .pointer A]
 | .disk_Disk_Remove_1 _, A, c => #[.pointer (some ⟨c, 0, none⟩)]
def ah.val (x : ah) (A : Option Addr) (c : Nat) : Value := .func (.func (ah.fid x)) #[] (ah.caps x A c)
theorem ah.val_one (x : ah) (A : Option Addr) (c : Nat) : (ah.val x A c).oneCell' = true := rfl
def ah.ok (Γ : Gh) (A : Option Addr) (c : Nat) : ah → Prop
 | .disk_add_1 a0 a1 => (Γ c = some (.cells #[.string a0] 9 (0, 0)) ∧ a0.size ≤ lim) ∧ (∃ (g1 : Nat) (A1_0 : Option Addr) (c1_0 : Nat), A = some ⟨g1, 0, none⟩ ∧ Γ g1 = some (.cells #[.slice A1_0 a1.length c1_0] 70 (0, 0)) ∧ a1.length ≤ c1_0 ∧ Sl av Γ A1_0 a1) ∧ True
 | .disk_Disk_Cut_1 a0 a1 => (Γ c = some (.cells #[.string a0] 9 (0, 0)) ∧ a0.size ≤ lim) ∧ (∃ (g1 : Nat), A = some ⟨g1, 0, none⟩ ∧ Γ g1 = some (.cells #[.int .i64 a1] 3 (0, 0)) ∧ I64 a1) ∧ True
 | .disk_Disk_Remove_1 a0 => (Γ c = some (.cells #[.string a0] 9 (0, 0)) ∧ a0.size ≤ lim) ∧ True
theorem ah.ok.mono {Γ Δ : Gh} {A : Option Addr} {c : Nat} : ∀ {x : ah}, ah.ok Γ A c x → Γ.le Δ → ah.ok Δ A c x := by
 intro x h hs; revert h; exact match x with
 | .disk_add_1 _ _ => fun ⟨⟨h0_0, h0_1⟩, ⟨g1, A1_0, c1_0, h1_0, h1_1, h1_2, h1_3⟩, _⟩ => ⟨⟨hs _ _ h0_0, h0_1⟩, ⟨g1, A1_0, c1_0, h1_0, hs _ _ h1_1, h1_2, h1_3.mono hs⟩, trivial⟩
 | .disk_Disk_Cut_1 _ _ => fun ⟨⟨h0_0, h0_1⟩, ⟨g1, h1_0, h1_1, h1_2⟩, _⟩ => ⟨⟨hs _ _ h0_0, h0_1⟩, ⟨g1, h1_0, hs _ _ h1_1, h1_2⟩, trivial⟩
 | .disk_Disk_Remove_1 _ => fun ⟨⟨h0_0, h0_1⟩, _⟩ => ⟨⟨hs _ _ h0_0, h0_1⟩, trivial⟩
structure aw where
 do_ : ah
 name : ByteArray
 tail : (List UInt8)
 deriving Inhabited, DecidableEq
def aw.bk (v : aw) : Nat := 1 + b3 v.do_ + rh v.name + (bkL b3) v.tail
abbrev aw.fits (Γ : Gh) (A0 : Option Addr) (c0 : Nat) (A2 : Option Addr) (c2 : Nat) (x : aw) : Prop := ah.ok Γ A0 c0 x.do_ ∧ x.name.size ≤ lim ∧ (x.tail.length ≤ c2 ∧ Sl av Γ A2 x.tail)
abbrev aw.cs (A0 : Option Addr) (c0 : Nat) (A2 : Option Addr) (c2 : Nat) (x : aw) : List Value := [ah.val x.do_ A0 c0, .string x.name, .slice A2 x.tail.length c2]
theorem aw.fits_mono {Γ Δ : Gh} {A0 : Option Addr} {c0 : Nat} {A2 : Option Addr} {c2 : Nat} {x : aw} (h : aw.fits Γ A0 c0 A2 c2 x) (hs : Γ.le Δ) : aw.fits Δ A0 c0 A2 c2 x := by
 obtain ⟨h0, h1, h2⟩ := h
 exact ⟨ah.ok.mono h0 hs, h1, ⟨h2.1, h2.2.mono hs⟩⟩
def ey : Ty aw where
 n := 3
 pos := by decide
 rd := fun Γ cs x => ∃ A0 c0 A2 c2, cs = aw.cs A0 c0 A2 c2 x ∧ aw.fits Γ A0 c0 A2 c2 x
 len := by rintro Γ cs x ⟨A0, c0, A2, c2, rfl, h⟩; rfl
 one := by rintro Γ cs x ⟨A0, c0, A2, c2, rfl, h⟩ u hu; simp only [aw.cs, List.mem_cons, List.not_mem_nil, or_false] at hu; rcases hu with rfl | rfl | rfl <;> first | rfl | exact ah.val_one _ _ _
 mono := by rintro Γ Δ cs x ⟨A0, c0, A2, c2, rfl, h⟩ hs; exact ⟨A0, c0, A2, c2, rfl, aw.fits_mono h hs⟩
theorem Sl.ddisk_changeT_at {Γ : Gh} {A : Option Addr} {xs : List aw} (h : Sl ey Γ A xs) (i : Nat) : ∃ A0 c0 A2 c2, i < xs.length → aw.fits Γ A0 c0 A2 c2 (gt xs i) ∧ iO Γ A (i * 3) (aw.cs A0 c0 A2 c2 (gt xs i)) := by
 by_cases hi : i < xs.length
 ·obtain ⟨cs, ⟨A0, c0, A2, c2, rfl, h⟩, h2⟩ := h.get i hi
  exact ⟨A0, c0, A2, c2, fun _ => ⟨h, h2⟩⟩
 ·exact ⟨none, 0, none, 0, fun h => absurd h hi⟩
theorem Own.ddisk_changeT_at {Γ : Gh} {A : Option Addr} {xs : List aw} {e c : Nat} {row : Rowb} (h : Own ey Γ e row A c xs) (i : Nat) : ∃ A0 c0 A2 c2, i < xs.length → aw.fits Γ A0 c0 A2 c2 (gt xs i) ∧ jL row A (i * 3) (aw.cs A0 c0 A2 c2 (gt xs i)) := by
 by_cases hi : i < xs.length
 ·obtain ⟨cs, ⟨A0, c0, A2, c2, rfl, h⟩, h2⟩ := h.get hi
  exact ⟨A0, c0, A2, c2, fun _ => ⟨h, h2⟩⟩
 ·exact ⟨none, 0, none, 0, fun h => absurd h hi⟩
structure au where
 sink : Int
 deriving Inhabited, DecidableEq
def au.bk (v : au) : Nat := 1 + b3 v.sink
abbrev au.fits (Γ : Gh)  (x : au) : Prop := I64 x.sink
abbrev au.cs  (x : au) : List Value := [.int .i64 x.sink]
theorem au.fits_mono {Γ Δ : Gh}  {x : au} (h : au.fits Γ  x) (hs : Γ.le Δ) : au.fits Δ  x := by
 exact h
structure aQ where
 name : ByteArray
 data : (List UInt8)
 deriving Inhabited, DecidableEq
def aQ.bk (v : aQ) : Nat := 1 + rh v.name + (bkL b3) v.data
abbrev aQ.fits (Γ : Gh) (A1 : Option Addr) (c1 : Nat) (x : aQ) : Prop := x.name.size ≤ lim ∧ (x.data.length ≤ c1 ∧ Sl av Γ A1 x.data)
abbrev aQ.cs (A1 : Option Addr) (c1 : Nat) (x : aQ) : List Value := [.string x.name, .slice A1 x.data.length c1]
theorem aQ.fits_mono {Γ Δ : Gh} {A1 : Option Addr} {c1 : Nat} {x : aQ} (h : aQ.fits Γ A1 c1 x) (hs : Γ.le Δ) : aQ.fits Δ A1 c1 x := by
 obtain ⟨h0, h1⟩ := h
 exact ⟨h0, ⟨h1.1, h1.2.mono hs⟩⟩
def oW : Ty aQ where
 n := 2
 pos := by decide
 rd := fun Γ cs x => ∃ A1 c1, cs = aQ.cs A1 c1 x ∧ aQ.fits Γ A1 c1 x
 len := by rintro Γ cs x ⟨A1, c1, rfl, h⟩; rfl
 one := by rintro Γ cs x ⟨A1, c1, rfl, h⟩ u hu; simp only [aQ.cs, List.mem_cons, List.not_mem_nil, or_false] at hu; rcases hu with rfl | rfl <;> rfl
 mono := by rintro Γ Δ cs x ⟨A1, c1, rfl, h⟩ hs; exact ⟨A1, c1, rfl, aQ.fits_mono h hs⟩
structure aF where
 kind : Int
 name : ByteArray
 to_ : ByteArray
 data : (List UInt8)
 n : Int
 deriving Inhabited, DecidableEq
def aF.bk (v : aF) : Nat := 1 + b3 v.kind + rh v.name + rh v.to_ + (bkL b3) v.data + b3 v.n
abbrev aF.fits (Γ : Gh) (A3 : Option Addr) (c3 : Nat) (x : aF) : Prop := I64 x.kind ∧ x.name.size ≤ lim ∧ x.to_.size ≤ lim ∧ (x.data.length ≤ c3 ∧ Sl av Γ A3 x.data) ∧ I64 x.n
abbrev aF.cs (A3 : Option Addr) (c3 : Nat) (x : aF) : List Value := [.int .i64 x.kind, .string x.name, .string x.to_, .slice A3 x.data.length c3, .int .i64 x.n]
theorem aF.fits_mono {Γ Δ : Gh} {A3 : Option Addr} {c3 : Nat} {x : aF} (h : aF.fits Γ A3 c3 x) (hs : Γ.le Δ) : aF.fits Δ A3 c3 x := by
 obtain ⟨h0, h1, h2, h3, h4⟩ := h
 exact ⟨h0, h1, h2, ⟨h3.1, h3.2.mono hs⟩, h4⟩
def na : Ty aF where
 n := 5
 pos := by decide
 rd := fun Γ cs x => ∃ A3 c3, cs = aF.cs A3 c3 x ∧ aF.fits Γ A3 c3 x
 len := by rintro Γ cs x ⟨A3, c3, rfl, h⟩; rfl
 one := by rintro Γ cs x ⟨A3, c3, rfl, h⟩ u hu; simp only [aF.cs, List.mem_cons, List.not_mem_nil, or_false] at hu; rcases hu with rfl | rfl | rfl | rfl | rfl <;> rfl
 mono := by rintro Γ Δ cs x ⟨A3, c3, rfl, h⟩ hs; exact ⟨A3, c3, rfl, aF.fits_mono h hs⟩
structure bE where
 room : Int
 safe_ : (List aQ)
 todo : (List aF)
 deriving Inhabited, DecidableEq
def bE.bk (v : bE) : Nat := 1 + b3 v.room + (bkL aQ.bk) v.safe_ + (bkL aF.bk) v.todo
abbrev bE.fits (Γ : Gh) (A1 : Option Addr) (c1 : Nat) (A2 : Option Addr) (c2 : Nat) (x : bE) : Prop := I64 x.room ∧ (x.safe_.length ≤ c1 ∧ Sl oW Γ A1 x.safe_) ∧ (x.todo.length ≤ c2 ∧ Sl na Γ A2 x.todo)
abbrev bE.cs (A1 : Option Addr) (c1 : Nat) (A2 : Option Addr) (c2 : Nat) (x : bE) : List Value := [.int .i64 x.room, .slice A1 x.safe_.length c1, .slice A2 x.todo.length c2]
theorem bE.fits_mono {Γ Δ : Gh} {A1 : Option Addr} {c1 : Nat} {A2 : Option Addr} {c2 : Nat} {x : bE} (h : bE.fits Γ A1 c1 A2 c2 x) (hs : Γ.le Δ) : bE.fits Δ A1 c1 A2 c2 x := by
 obtain ⟨h0, h1, h2⟩ := h
 exact ⟨h0, ⟨h1.1, h1.2.mono hs⟩, ⟨h2.1, h2.2.mono hs⟩⟩
structure bi where
 kind : Int
 rec_ : Rec
 route : (List Int)
 sinks : (List Int)
 list : (List Int)
 vec : (List Int)
 sink : Int
 seq : Int
 deriving Inhabited, DecidableEq
def bi.bk (v : bi) : Nat := 1 + b3 v.kind + Rec.bk v.rec_ + (bkL b3) v.route + (bkL b3) v.sinks + (bkL b3) v.list + (bkL b3) v.vec + b3 v.sink + b3 v.seq
abbrev bi.fits (Γ : Gh) (A2 : Option Addr) (c2 : Nat) (A3 : Option Addr) (c3 : Nat) (A4 : Option Addr) (c4 : Nat) (A5 : Option Addr) (c5 : Nat) (A6 : Option Addr) (c6 : Nat) (x : bi) : Prop := I64 x.kind ∧ x.rec_.key.size ≤ lim ∧ (x.rec_.vers.length ≤ c2 ∧ Sl verT Γ A2 x.rec_.vers) ∧ (x.route.length ≤ c3 ∧ Sl intT Γ A3 x.route) ∧ (x.sinks.length ≤ c4 ∧ Sl intT Γ A4 x.sinks) ∧ (x.list.length ≤ c5 ∧ Sl intT Γ A5 x.list) ∧ (x.vec.length ≤ c6 ∧ Sl intT Γ A6 x.vec) ∧ I64 x.sink ∧ I64 x.seq
abbrev bi.cs (A2 : Option Addr) (c2 : Nat) (A3 : Option Addr) (c3 : Nat) (A4 : Option Addr) (c4 : Nat) (A5 : Option Addr) (c5 : Nat) (A6 : Option Addr) (c6 : Nat) (x : bi) : List Value := [.int .i64 x.kind, .string x.rec_.key, .slice A2 x.rec_.vers.length c2, .slice A3 x.route.length c3, .slice A4 x.sinks.length c4, .slice A5 x.list.length c5, .slice A6 x.vec.length c6, .int .i64 x.sink, .int .i64 x.seq]
theorem bi.fits_mono {Γ Δ : Gh} {A2 : Option Addr} {c2 : Nat} {A3 : Option Addr} {c3 : Nat} {A4 : Option Addr} {c4 : Nat} {A5 : Option Addr} {c5 : Nat} {A6 : Option Addr} {c6 : Nat} {x : bi} (h : bi.fits Γ A2 c2 A3 c3 A4 c4 A5 c5 A6 c6 x) (hs : Γ.le Δ) : bi.fits Δ A2 c2 A3 c3 A4 c4 A5 c5 A6 c6 x := by
 obtain ⟨h0, h1, h2, h3, h4, h5, h6, h7, h8⟩ := h
 exact ⟨h0, h1, ⟨h2.1, h2.2.mono hs⟩, ⟨h3.1, h3.2.mono hs⟩, ⟨h4.1, h4.2.mono hs⟩, ⟨h5.1, h5.2.mono hs⟩, ⟨h6.1, h6.2.mono hs⟩, h7, h8⟩
structure cu where
 b : (List UInt8)
 at_ : Int
 bad : Bool
 deriving Inhabited, DecidableEq
def cu.bk (v : cu) : Nat := 1 + (bkL b3) v.b + b3 v.at_ + b3 v.bad
abbrev cu.fits (Γ : Gh) (A0 : Option Addr) (c0 : Nat) (x : cu) : Prop := (x.b.length ≤ c0 ∧ Sl av Γ A0 x.b) ∧ I64 x.at_
abbrev cu.cs (A0 : Option Addr) (c0 : Nat) (x : cu) : List Value := [.slice A0 x.b.length c0, .int .i64 x.at_, .bool x.bad]
theorem cu.fits_mono {Γ Δ : Gh} {A0 : Option Addr} {c0 : Nat} {x : cu} (h : cu.fits Γ A0 c0 x) (hs : Γ.le Δ) : cu.fits Δ A0 c0 x := by
 obtain ⟨h0, h1⟩ := h
 exact ⟨⟨h0.1, h0.2.mono hs⟩, h1⟩
structure dq where
 vec : (List Int)
 deriving Inhabited, DecidableEq
def dq.bk (v : dq) : Nat := 1 + (bkL b3) v.vec
abbrev dq.fits (Γ : Gh) (A0 : Option Addr) (c0 : Nat) (x : dq) : Prop := (x.vec.length ≤ c0 ∧ Sl intT Γ A0 x.vec)
abbrev dq.cs (A0 : Option Addr) (c0 : Nat) (x : dq) : List Value := [.slice A0 x.vec.length c0]
theorem dq.fits_mono {Γ Δ : Gh} {A0 : Option Addr} {c0 : Nat} {x : dq} (h : dq.fits Γ A0 c0 x) (hs : Γ.le Δ) : dq.fits Δ A0 c0 x := by
 have h0 := h
 exact ⟨h0.1, h0.2.mono hs⟩
structure cX where
 list : (List Int)
 deriving Inhabited, DecidableEq
def cX.bk (v : cX) : Nat := 1 + (bkL b3) v.list
abbrev cX.fits (Γ : Gh) (A0 : Option Addr) (c0 : Nat) (x : cX) : Prop := (x.list.length ≤ c0 ∧ Sl intT Γ A0 x.list)
abbrev cX.cs (A0 : Option Addr) (c0 : Nat) (x : cX) : List Value := [.slice A0 x.list.length c0]
theorem cX.fits_mono {Γ Δ : Gh} {A0 : Option Addr} {c0 : Nat} {x : cX} (h : cX.fits Γ A0 c0 x) (hs : Γ.le Δ) : cX.fits Δ A0 c0 x := by
 have h0 := h
 exact ⟨h0.1, h0.2.mono hs⟩
structure bP where
 seq : Int
 deriving Inhabited, DecidableEq
def bP.bk (v : bP) : Nat := 1 + b3 v.seq
abbrev bP.fits (Γ : Gh)  (x : bP) : Prop := I64 x.seq
abbrev bP.cs  (x : bP) : List Value := [.int .i64 x.seq]
theorem bP.fits_mono {Γ Δ : Gh}  {x : bP} (h : bP.fits Γ  x) (hs : Γ.le Δ) : bP.fits Δ  x := by
 exact h
structure eB where
 seq : Int
 sinks : (List Int)
 path : (List Int)
 r : Rec
 deriving Inhabited, DecidableEq
def eB.bk (v : eB) : Nat := 1 + b3 v.seq + (bkL b3) v.sinks + (bkL b3) v.path + Rec.bk v.r
abbrev eB.fits (Γ : Gh) (A1 : Option Addr) (c1 : Nat) (A2 : Option Addr) (c2 : Nat) (A4 : Option Addr) (c4 : Nat) (x : eB) : Prop := I64 x.seq ∧ (x.sinks.length ≤ c1 ∧ Sl intT Γ A1 x.sinks) ∧ (x.path.length ≤ c2 ∧ Sl intT Γ A2 x.path) ∧ x.r.key.size ≤ lim ∧ (x.r.vers.length ≤ c4 ∧ Sl verT Γ A4 x.r.vers)
abbrev eB.cs (A1 : Option Addr) (c1 : Nat) (A2 : Option Addr) (c2 : Nat) (A4 : Option Addr) (c4 : Nat) (x : eB) : List Value := [.int .i64 x.seq, .slice A1 x.sinks.length c1, .slice A2 x.path.length c2, .string x.r.key, .slice A4 x.r.vers.length c4]
theorem eB.fits_mono {Γ Δ : Gh} {A1 : Option Addr} {c1 : Nat} {A2 : Option Addr} {c2 : Nat} {A4 : Option Addr} {c4 : Nat} {x : eB} (h : eB.fits Γ A1 c1 A2 c2 A4 c4 x) (hs : Γ.le Δ) : eB.fits Δ A1 c1 A2 c2 A4 c4 x := by
 obtain ⟨h0, h1, h2, h3, h4⟩ := h
 exact ⟨h0, ⟨h1.1, h1.2.mono hs⟩, ⟨h2.1, h2.2.mono hs⟩, h3, ⟨h4.1, h4.2.mono hs⟩⟩
structure cU where
 sink : Int
 deriving Inhabited, DecidableEq
def cU.bk (v : cU) : Nat := 1 + b3 v.sink
abbrev cU.fits (Γ : Gh)  (x : cU) : Prop := I64 x.sink
abbrev cU.cs  (x : cU) : List Value := [.int .i64 x.sink]
theorem cU.fits_mono {Γ Δ : Gh}  {x : cU} (h : cU.fits Γ  x) (hs : Γ.le Δ) : cU.fits Δ  x := by
 exact h
structure bn where
 b : (List UInt8)
 at_ : Int
 bad : Bool
 deriving Inhabited, DecidableEq
def bn.bk (v : bn) : Nat := 1 + (bkL b3) v.b + b3 v.at_ + b3 v.bad
abbrev bn.fits (Γ : Gh) (A0 : Option Addr) (c0 : Nat) (x : bn) : Prop := (x.b.length ≤ c0 ∧ Sl av Γ A0 x.b) ∧ I64 x.at_
abbrev bn.cs (A0 : Option Addr) (c0 : Nat) (x : bn) : List Value := [.slice A0 x.b.length c0, .int .i64 x.at_, .bool x.bad]
theorem bn.fits_mono {Γ Δ : Gh} {A0 : Option Addr} {c0 : Nat} {x : bn} (h : bn.fits Γ A0 c0 x) (hs : Γ.le Δ) : bn.fits Δ A0 c0 x := by
 obtain ⟨h0, h1⟩ := h
 exact ⟨⟨h0.1, h0.2.mono hs⟩, h1⟩
structure bq where
 seq : Int
 rec_ : Rec
 route : (List Int)
 want : (List Int)
 deriving Inhabited, DecidableEq
def bq.bk (v : bq) : Nat := 1 + b3 v.seq + Rec.bk v.rec_ + (bkL b3) v.route + (bkL b3) v.want
abbrev bq.fits (Γ : Gh) (A2 : Option Addr) (c2 : Nat) (A3 : Option Addr) (c3 : Nat) (A4 : Option Addr) (c4 : Nat) (x : bq) : Prop := I64 x.seq ∧ x.rec_.key.size ≤ lim ∧ (x.rec_.vers.length ≤ c2 ∧ Sl verT Γ A2 x.rec_.vers) ∧ (x.route.length ≤ c3 ∧ Sl intT Γ A3 x.route) ∧ (x.want.length ≤ c4 ∧ Sl intT Γ A4 x.want)
abbrev bq.cs (A2 : Option Addr) (c2 : Nat) (A3 : Option Addr) (c3 : Nat) (A4 : Option Addr) (c4 : Nat) (x : bq) : List Value := [.int .i64 x.seq, .string x.rec_.key, .slice A2 x.rec_.vers.length c2, .slice A3 x.route.length c3, .slice A4 x.want.length c4]
theorem bq.fits_mono {Γ Δ : Gh} {A2 : Option Addr} {c2 : Nat} {A3 : Option Addr} {c3 : Nat} {A4 : Option Addr} {c4 : Nat} {x : bq} (h : bq.fits Γ A2 c2 A3 c3 A4 c4 x) (hs : Γ.le Δ) : bq.fits Δ A2 c2 A3 c3 A4 c4 x := by
 obtain ⟨h0, h1, h2, h3, h4⟩ := h
 exact ⟨h0, h1, ⟨h2.1, h2.2.mono hs⟩, ⟨h3.1, h3.2.mono hs⟩, ⟨h4.1, h4.2.mono hs⟩⟩
structure cW where
 b : (List UInt8)
 deriving Inhabited, DecidableEq
def cW.bk (v : cW) : Nat := 1 + (bkL b3) v.b
abbrev cW.fits (Γ : Gh) (A0 : Option Addr) (c0 : Nat) (x : cW) : Prop := (x.b.length ≤ c0 ∧ Sl av Γ A0 x.b)
abbrev cW.cs (A0 : Option Addr) (c0 : Nat) (x : cW) : List Value := [.slice A0 x.b.length c0]
theorem cW.fits_mono {Γ Δ : Gh} {A0 : Option Addr} {c0 : Nat} {x : cW} (h : cW.fits Γ A0 c0 x) (hs : Γ.le Δ) : cW.fits Δ A0 c0 x := by
 have h0 := h
 exact ⟨h0.1, h0.2.mono hs⟩
structure cV where
 b : (List UInt8)
 at_ : Int
 deriving Inhabited, DecidableEq
def cV.bk (v : cV) : Nat := 1 + (bkL b3) v.b + b3 v.at_
abbrev cV.fits (Γ : Gh) (A0 : Option Addr) (c0 : Nat) (x : cV) : Prop := (x.b.length ≤ c0 ∧ Sl av Γ A0 x.b) ∧ I64 x.at_
abbrev cV.cs (A0 : Option Addr) (c0 : Nat) (x : cV) : List Value := [.slice A0 x.b.length c0, .int .i64 x.at_]
theorem cV.fits_mono {Γ Δ : Gh} {A0 : Option Addr} {c0 : Nat} {x : cV} (h : cV.fits Γ A0 c0 x) (hs : Γ.le Δ) : cV.fits Δ A0 c0 x := by
 obtain ⟨h0, h1⟩ := h
 exact ⟨⟨h0.1, h0.2.mono hs⟩, h1⟩
end Fw
end Go.Proofs.YtlfmppjcgaekhaaGreat
