/- The data types of the program, as Lean structures, and what they are in memory. No condition. -/
import Derived.Test.YtogmioecalmalaaGreatK10
namespace Go.Proofs.YtogmioecalmalaaGreat
namespace Fw
set_option linter.unusedVariables false
set_option linter.unusedSimpArgs false
set_option linter.unusedSectionVars false
open Go.RowKit
structure Druntime_boundsError where
  x_ : Int
  y : Int
  signed : Bool
  code : UInt8
  deriving Inhabited, DecidableEq
def Druntime_boundsError.bk (v : Druntime_boundsError) : Nat := 1 + bkOne v.x_ + bkOne v.y + bkOne v.signed + bkOne v.code
abbrev Druntime_boundsError.fits (Γ : Gh)  (x : Druntime_boundsError) : Prop := I64 x.x_ ∧ I64 x.y
abbrev Druntime_boundsError.cs  (x : Druntime_boundsError) : List Value := [.int .i64 x.x_, .int .i64 x.y, .bool x.signed, .int .u8 ((x.code.toNat : Nat) : Int)]
theorem Druntime_boundsError.fits_mono {Γ Δ : Gh}  {x : Druntime_boundsError} (h : Druntime_boundsError.fits Γ  x) (hs : Γ.le Δ) : Druntime_boundsError.fits Δ  x := by
  exact h
structure Druntime_errorAddressString where
  msg : ByteArray
  addr : Int
  deriving Inhabited, DecidableEq
def Druntime_errorAddressString.bk (v : Druntime_errorAddressString) : Nat := 1 + bkStr v.msg + bkOne v.addr
abbrev Druntime_errorAddressString.fits (Γ : Gh)  (x : Druntime_errorAddressString) : Prop := x.msg.size ≤ lim ∧ U64 x.addr
abbrev Druntime_errorAddressString.cs  (x : Druntime_errorAddressString) : List Value := [.string x.msg, .int .u64 x.addr]
theorem Druntime_errorAddressString.fits_mono {Γ Δ : Gh}  {x : Druntime_errorAddressString} (h : Druntime_errorAddressString.fits Γ  x) (hs : Γ.le Δ) : Druntime_errorAddressString.fits Δ  x := by
  exact h
structure Dapi_arr2 where
  a0 : Int
  a1 : Int
  deriving Inhabited, DecidableEq
def Dapi_arr2.bk (v : Dapi_arr2) : Nat := 1 + bkOne v.a0 + bkOne v.a1
abbrev Dapi_arr2.fits (Γ : Gh)  (x : Dapi_arr2) : Prop := I64 x.a0 ∧ I64 x.a1
abbrev Dapi_arr2.cs  (x : Dapi_arr2) : List Value := [.int .i64 x.a0, .int .i64 x.a1]
theorem Dapi_arr2.fits_mono {Γ Δ : Gh}  {x : Dapi_arr2} (h : Dapi_arr2.fits Γ  x) (hs : Γ.le Δ) : Dapi_arr2.fits Δ  x := by
  exact h
def dapi_arr2T : Ty Dapi_arr2 where
  n := 2
  pos := by decide
  rd := fun Γ cs x => cs = Dapi_arr2.cs  x ∧ Dapi_arr2.fits Γ  x
  len := by rintro Γ cs x ⟨rfl, h⟩; rfl
  one := by rintro Γ cs x ⟨rfl, h⟩ u hu; simp only [Dapi_arr2.cs, List.mem_cons, List.not_mem_nil, or_false] at hu; rcases hu with rfl | rfl <;> rfl
  mono := by rintro Γ Δ cs x ⟨rfl, h⟩ hs; exact ⟨rfl, Dapi_arr2.fits_mono h hs⟩
theorem Sl.dapi_arr2T_at {Γ : Gh} {A : Option Addr} {xs : List Dapi_arr2} {i : Nat} (h : Sl dapi_arr2T Γ A xs) (hi : i < xs.length) : Dapi_arr2.fits Γ (gt xs i) ∧ Cells Γ A (i * 2) (Dapi_arr2.cs (gt xs i)) := by
  obtain ⟨cs, ⟨rfl, h1⟩, h2⟩ := h.get i hi
  exact ⟨h1, h2⟩
theorem Own.dapi_arr2T_at {Γ : Gh} {A : Option Addr} {xs : List Dapi_arr2} {e c : Nat} {row : Rowb} {i : Nat} (h : Own dapi_arr2T Γ e row A c xs) (hi : i < xs.length) : Dapi_arr2.fits Γ (gt xs i) ∧ OCells row A (i * 2) (Dapi_arr2.cs (gt xs i)) := by
  obtain ⟨cs, ⟨rfl, h1⟩, h2⟩ := h.get hi
  exact ⟨h1, h2⟩
structure Dapi_Conf where
  sites : Int
  links : (List Dapi_arr2)
  nodes : Int
  members : (List Int)
  n : Int
  r : Int
  w_ : Int
  group : Int
  secret : ByteArray
  room : Int
  seg : Int
  cap : Int
  pend : Int
  wait : Int
  timeout : Int
  hintAfter : Int
  base : Int
  deriving Inhabited, DecidableEq
def Dapi_Conf.bk (v : Dapi_Conf) : Nat := 1 + bkOne v.sites + (bkL Dapi_arr2.bk) v.links + bkOne v.nodes + (bkL bkOne) v.members + bkOne v.n + bkOne v.r + bkOne v.w_ + bkOne v.group + bkStr v.secret + bkOne v.room + bkOne v.seg + bkOne v.cap + bkOne v.pend + bkOne v.wait + bkOne v.timeout + bkOne v.hintAfter + bkOne v.base
abbrev Dapi_Conf.fits (Γ : Gh) (A1 : Option Addr) (c1 : Nat) (A3 : Option Addr) (c3 : Nat) (x : Dapi_Conf) : Prop := I64 x.sites ∧ (x.links.length ≤ c1 ∧ Sl dapi_arr2T Γ A1 x.links) ∧ I64 x.nodes ∧ (x.members.length ≤ c3 ∧ Sl intT Γ A3 x.members) ∧ I64 x.n ∧ I64 x.r ∧ I64 x.w_ ∧ I64 x.group ∧ x.secret.size ≤ lim ∧ I64 x.room ∧ I64 x.seg ∧ I64 x.cap ∧ I64 x.pend ∧ I64 x.wait ∧ I64 x.timeout ∧ I64 x.hintAfter ∧ I64 x.base
abbrev Dapi_Conf.cs (A1 : Option Addr) (c1 : Nat) (A3 : Option Addr) (c3 : Nat) (x : Dapi_Conf) : List Value := [.int .i64 x.sites, .slice A1 x.links.length c1, .int .i64 x.nodes, .slice A3 x.members.length c3, .int .i64 x.n, .int .i64 x.r, .int .i64 x.w_, .int .i64 x.group, .string x.secret, .int .i64 x.room, .int .i64 x.seg, .int .i64 x.cap, .int .i64 x.pend, .int .i64 x.wait, .int .i64 x.timeout, .int .i64 x.hintAfter, .int .i64 x.base]
theorem Dapi_Conf.fits_mono {Γ Δ : Gh} {A1 : Option Addr} {c1 : Nat} {A3 : Option Addr} {c3 : Nat} {x : Dapi_Conf} (h : Dapi_Conf.fits Γ A1 c1 A3 c3 x) (hs : Γ.le Δ) : Dapi_Conf.fits Δ A1 c1 A3 c3 x := by
  obtain ⟨h0, h1, h2, h3, h4, h5, h6, h7, h8, h9, h10, h11, h12, h13, h14, h15, h16⟩ := h
  exact ⟨h0, ⟨h1.1, h1.2.mono hs⟩, h2, ⟨h3.1, h3.2.mono hs⟩, h4, h5, h6, h7, h8, h9, h10, h11, h12, h13, h14, h15, h16⟩
def dapi_ConfT : Ty Dapi_Conf where
  n := 17
  pos := by decide
  rd := fun Γ cs x => ∃ A1 c1 A3 c3, cs = Dapi_Conf.cs A1 c1 A3 c3 x ∧ Dapi_Conf.fits Γ A1 c1 A3 c3 x
  len := by rintro Γ cs x ⟨A1, c1, A3, c3, rfl, h⟩; rfl
  one := by rintro Γ cs x ⟨A1, c1, A3, c3, rfl, h⟩ u hu; simp only [Dapi_Conf.cs, List.mem_cons, List.not_mem_nil, or_false] at hu; rcases hu with rfl | rfl | rfl | rfl | rfl | rfl | rfl | rfl | rfl | rfl | rfl | rfl | rfl | rfl | rfl | rfl | rfl <;> rfl
  mono := by rintro Γ Δ cs x ⟨A1, c1, A3, c3, rfl, h⟩ hs; exact ⟨A1, c1, A3, c3, rfl, Dapi_Conf.fits_mono h hs⟩
structure Adr where
  site : Int
  node : Int
  deriving Inhabited, DecidableEq
def Adr.bk (v : Adr) : Nat := 1 + bkOne v.site + bkOne v.node
abbrev Adr.fits (Γ : Gh)  (x : Adr) : Prop := I64 x.site ∧ I64 x.node
abbrev Adr.cs  (x : Adr) : List Value := [.int .i64 x.site, .int .i64 x.node]
theorem Adr.fits_mono {Γ Δ : Gh}  {x : Adr} (h : Adr.fits Γ  x) (hs : Γ.le Δ) : Adr.fits Δ  x := by
  exact h
structure Dot where
  s : Int
  n : Int
  deriving Inhabited, DecidableEq
def Dot.bk (v : Dot) : Nat := 1 + bkOne v.s + bkOne v.n
abbrev Dot.fits (Γ : Gh)  (x : Dot) : Prop := I64 x.s ∧ I64 x.n
abbrev Dot.cs  (x : Dot) : List Value := [.int .i64 x.s, .int .i64 x.n]
theorem Dot.fits_mono {Γ Δ : Gh}  {x : Dot} (h : Dot.fits Γ  x) (hs : Γ.le Δ) : Dot.fits Δ  x := by
  exact h
structure Span where
  s : Int
  f : Int
  t : Int
  deriving Inhabited, DecidableEq
def Span.bk (v : Span) : Nat := 1 + bkOne v.s + bkOne v.f + bkOne v.t
abbrev Span.fits (Γ : Gh)  (x : Span) : Prop := I64 x.s ∧ I64 x.f ∧ I64 x.t
abbrev Span.cs  (x : Span) : List Value := [.int .i64 x.s, .int .i64 x.f, .int .i64 x.t]
theorem Span.fits_mono {Γ Δ : Gh}  {x : Span} (h : Span.fits Γ  x) (hs : Γ.le Δ) : Span.fits Δ  x := by
  exact h
def spanT : Ty Span where
  n := 3
  pos := by decide
  rd := fun Γ cs x => cs = Span.cs  x ∧ Span.fits Γ  x
  len := by rintro Γ cs x ⟨rfl, h⟩; rfl
  one := by rintro Γ cs x ⟨rfl, h⟩ u hu; simp only [Span.cs, List.mem_cons, List.not_mem_nil, or_false] at hu; rcases hu with rfl | rfl | rfl <;> rfl
  mono := by rintro Γ Δ cs x ⟨rfl, h⟩ hs; exact ⟨rfl, Span.fits_mono h hs⟩
structure Ver where
  dot : Dot
  past : (List Span)
  gone : Bool
  val : ByteArray
  deriving Inhabited, DecidableEq
def Ver.bk (v : Ver) : Nat := 1 + Dot.bk v.dot + (bkL Span.bk) v.past + bkOne v.gone + bkStr v.val
abbrev Ver.fits (Γ : Gh) (A2 : Option Addr) (c2 : Nat) (x : Ver) : Prop := I64 x.dot.s ∧ I64 x.dot.n ∧ (x.past.length ≤ c2 ∧ Sl spanT Γ A2 x.past) ∧ x.val.size ≤ lim
abbrev Ver.cs (A2 : Option Addr) (c2 : Nat) (x : Ver) : List Value := [.int .i64 x.dot.s, .int .i64 x.dot.n, .slice A2 x.past.length c2, .bool x.gone, .string x.val]
theorem Ver.fits_mono {Γ Δ : Gh} {A2 : Option Addr} {c2 : Nat} {x : Ver} (h : Ver.fits Γ A2 c2 x) (hs : Γ.le Δ) : Ver.fits Δ A2 c2 x := by
  obtain ⟨h0, h1, h2, h3⟩ := h
  exact ⟨h0, h1, ⟨h2.1, h2.2.mono hs⟩, h3⟩
def verT : Ty Ver where
  n := 5
  pos := by decide
  rd := fun Γ cs x => ∃ A2 c2, cs = Ver.cs A2 c2 x ∧ Ver.fits Γ A2 c2 x
  len := by rintro Γ cs x ⟨A2, c2, rfl, h⟩; rfl
  one := by rintro Γ cs x ⟨A2, c2, rfl, h⟩ u hu; simp only [Ver.cs, List.mem_cons, List.not_mem_nil, or_false] at hu; rcases hu with rfl | rfl | rfl | rfl | rfl <;> rfl
  mono := by rintro Γ Δ cs x ⟨A2, c2, rfl, h⟩ hs; exact ⟨A2, c2, rfl, Ver.fits_mono h hs⟩
structure Rec where
  key : ByteArray
  vers : (List Ver)
  deriving Inhabited, DecidableEq
def Rec.bk (v : Rec) : Nat := 1 + bkStr v.key + (bkL Ver.bk) v.vers
abbrev Rec.fits (Γ : Gh) (A1 : Option Addr) (c1 : Nat) (x : Rec) : Prop := x.key.size ≤ lim ∧ (x.vers.length ≤ c1 ∧ Sl verT Γ A1 x.vers)
abbrev Rec.cs (A1 : Option Addr) (c1 : Nat) (x : Rec) : List Value := [.string x.key, .slice A1 x.vers.length c1]
theorem Rec.fits_mono {Γ Δ : Gh} {A1 : Option Addr} {c1 : Nat} {x : Rec} (h : Rec.fits Γ A1 c1 x) (hs : Γ.le Δ) : Rec.fits Δ A1 c1 x := by
  obtain ⟨h0, h1⟩ := h
  exact ⟨h0, ⟨h1.1, h1.2.mono hs⟩⟩
def recT : Ty Rec where
  n := 2
  pos := by decide
  rd := fun Γ cs x => ∃ A1 c1, cs = Rec.cs A1 c1 x ∧ Rec.fits Γ A1 c1 x
  len := by rintro Γ cs x ⟨A1, c1, rfl, h⟩; rfl
  one := by rintro Γ cs x ⟨A1, c1, rfl, h⟩ u hu; simp only [Rec.cs, List.mem_cons, List.not_mem_nil, or_false] at hu; rcases hu with rfl | rfl <;> rfl
  mono := by rintro Γ Δ cs x ⟨A1, c1, rfl, h⟩ hs; exact ⟨A1, c1, rfl, Rec.fits_mono h hs⟩
structure Dapi_Msg where
  kind : Int
  from_ : Adr
  to_ : Adr
  id : Int
  n : Int
  for_ : Int
  code : Int
  key : ByteArray
  recs : (List Rec)
  vec : (List Int)
  path : (List Int)
  hashes : (List Int)
  route : (List Int)
  deriving Inhabited, DecidableEq
def Dapi_Msg.bk (v : Dapi_Msg) : Nat := 1 + bkOne v.kind + Adr.bk v.from_ + Adr.bk v.to_ + bkOne v.id + bkOne v.n + bkOne v.for_ + bkOne v.code + bkStr v.key + (bkL Rec.bk) v.recs + (bkL bkOne) v.vec + (bkL bkOne) v.path + (bkL bkOne) v.hashes + (bkL bkOne) v.route
abbrev Dapi_Msg.fits (Γ : Gh) (A10 : Option Addr) (c10 : Nat) (A11 : Option Addr) (c11 : Nat) (A12 : Option Addr) (c12 : Nat) (A13 : Option Addr) (c13 : Nat) (A14 : Option Addr) (c14 : Nat) (x : Dapi_Msg) : Prop := I64 x.kind ∧ I64 x.from_.site ∧ I64 x.from_.node ∧ I64 x.to_.site ∧ I64 x.to_.node ∧ I64 x.id ∧ I64 x.n ∧ I64 x.for_ ∧ I64 x.code ∧ x.key.size ≤ lim ∧ (x.recs.length ≤ c10 ∧ Sl recT Γ A10 x.recs) ∧ (x.vec.length ≤ c11 ∧ Sl intT Γ A11 x.vec) ∧ (x.path.length ≤ c12 ∧ Sl intT Γ A12 x.path) ∧ (x.hashes.length ≤ c13 ∧ Sl u64T Γ A13 x.hashes) ∧ (x.route.length ≤ c14 ∧ Sl intT Γ A14 x.route)
abbrev Dapi_Msg.cs (A10 : Option Addr) (c10 : Nat) (A11 : Option Addr) (c11 : Nat) (A12 : Option Addr) (c12 : Nat) (A13 : Option Addr) (c13 : Nat) (A14 : Option Addr) (c14 : Nat) (x : Dapi_Msg) : List Value := [.int .i64 x.kind, .int .i64 x.from_.site, .int .i64 x.from_.node, .int .i64 x.to_.site, .int .i64 x.to_.node, .int .i64 x.id, .int .i64 x.n, .int .i64 x.for_, .int .i64 x.code, .string x.key, .slice A10 x.recs.length c10, .slice A11 x.vec.length c11, .slice A12 x.path.length c12, .slice A13 x.hashes.length c13, .slice A14 x.route.length c14]
theorem Dapi_Msg.fits_mono {Γ Δ : Gh} {A10 : Option Addr} {c10 : Nat} {A11 : Option Addr} {c11 : Nat} {A12 : Option Addr} {c12 : Nat} {A13 : Option Addr} {c13 : Nat} {A14 : Option Addr} {c14 : Nat} {x : Dapi_Msg} (h : Dapi_Msg.fits Γ A10 c10 A11 c11 A12 c12 A13 c13 A14 c14 x) (hs : Γ.le Δ) : Dapi_Msg.fits Δ A10 c10 A11 c11 A12 c12 A13 c13 A14 c14 x := by
  obtain ⟨h0, h1, h2, h3, h4, h5, h6, h7, h8, h9, h10, h11, h12, h13, h14⟩ := h
  exact ⟨h0, h1, h2, h3, h4, h5, h6, h7, h8, h9, ⟨h10.1, h10.2.mono hs⟩, ⟨h11.1, h11.2.mono hs⟩, ⟨h12.1, h12.2.mono hs⟩, ⟨h13.1, h13.2.mono hs⟩, ⟨h14.1, h14.2.mono hs⟩⟩
structure Dsite_Outcome where
  op : Int
  err : Int
  dot : Dot
  vers : (List Ver)
  token : (List UInt8)
  deriving Inhabited, DecidableEq
def Dsite_Outcome.bk (v : Dsite_Outcome) : Nat := 1 + bkOne v.op + bkOne v.err + Dot.bk v.dot + (bkL Ver.bk) v.vers + (bkL bkOne) v.token
abbrev Dsite_Outcome.fits (Γ : Gh) (A4 : Option Addr) (c4 : Nat) (A5 : Option Addr) (c5 : Nat) (x : Dsite_Outcome) : Prop := I64 x.op ∧ I64 x.err ∧ I64 x.dot.s ∧ I64 x.dot.n ∧ (x.vers.length ≤ c4 ∧ Sl verT Γ A4 x.vers) ∧ (x.token.length ≤ c5 ∧ Sl byteT Γ A5 x.token)
abbrev Dsite_Outcome.cs (A4 : Option Addr) (c4 : Nat) (A5 : Option Addr) (c5 : Nat) (x : Dsite_Outcome) : List Value := [.int .i64 x.op, .int .i64 x.err, .int .i64 x.dot.s, .int .i64 x.dot.n, .slice A4 x.vers.length c4, .slice A5 x.token.length c5]
theorem Dsite_Outcome.fits_mono {Γ Δ : Gh} {A4 : Option Addr} {c4 : Nat} {A5 : Option Addr} {c5 : Nat} {x : Dsite_Outcome} (h : Dsite_Outcome.fits Γ A4 c4 A5 c5 x) (hs : Γ.le Δ) : Dsite_Outcome.fits Δ A4 c4 A5 c5 x := by
  obtain ⟨h0, h1, h2, h3, h4, h5⟩ := h
  exact ⟨h0, h1, h2, h3, ⟨h4.1, h4.2.mono hs⟩, ⟨h5.1, h5.2.mono hs⟩⟩
structure Dqueue_Conf where
  self : Int
  sites : Int
  links : (List Int)
  cap : Int
  base : Int
  members : (List Int)
  deriving Inhabited, DecidableEq
def Dqueue_Conf.bk (v : Dqueue_Conf) : Nat := 1 + bkOne v.self + bkOne v.sites + (bkL bkOne) v.links + bkOne v.cap + bkOne v.base + (bkL bkOne) v.members
abbrev Dqueue_Conf.fits (Γ : Gh) (A2 : Option Addr) (c2 : Nat) (A5 : Option Addr) (c5 : Nat) (x : Dqueue_Conf) : Prop := I64 x.self ∧ I64 x.sites ∧ (x.links.length ≤ c2 ∧ Sl intT Γ A2 x.links) ∧ I64 x.cap ∧ I64 x.base ∧ (x.members.length ≤ c5 ∧ Sl intT Γ A5 x.members)
abbrev Dqueue_Conf.cs (A2 : Option Addr) (c2 : Nat) (A5 : Option Addr) (c5 : Nat) (x : Dqueue_Conf) : List Value := [.int .i64 x.self, .int .i64 x.sites, .slice A2 x.links.length c2, .int .i64 x.cap, .int .i64 x.base, .slice A5 x.members.length c5]
theorem Dqueue_Conf.fits_mono {Γ Δ : Gh} {A2 : Option Addr} {c2 : Nat} {A5 : Option Addr} {c5 : Nat} {x : Dqueue_Conf} (h : Dqueue_Conf.fits Γ A2 c2 A5 c5 x) (hs : Γ.le Δ) : Dqueue_Conf.fits Δ A2 c2 A5 c5 x := by
  obtain ⟨h0, h1, h2, h3, h4, h5⟩ := h
  exact ⟨h0, h1, ⟨h2.1, h2.2.mono hs⟩, h3, h4, ⟨h5.1, h5.2.mono hs⟩⟩
structure Dsite_ask where
  op : Int
  key : ByteArray
  val : ByteArray
  gone : Bool
  past : (List Span)
  age : Int
  deriving Inhabited, DecidableEq
def Dsite_ask.bk (v : Dsite_ask) : Nat := 1 + bkOne v.op + bkStr v.key + bkStr v.val + bkOne v.gone + (bkL Span.bk) v.past + bkOne v.age
abbrev Dsite_ask.fits (Γ : Gh) (A4 : Option Addr) (c4 : Nat) (x : Dsite_ask) : Prop := I64 x.op ∧ x.key.size ≤ lim ∧ x.val.size ≤ lim ∧ (x.past.length ≤ c4 ∧ Sl spanT Γ A4 x.past) ∧ I64 x.age
abbrev Dsite_ask.cs (A4 : Option Addr) (c4 : Nat) (x : Dsite_ask) : List Value := [.int .i64 x.op, .string x.key, .string x.val, .bool x.gone, .slice A4 x.past.length c4, .int .i64 x.age]
theorem Dsite_ask.fits_mono {Γ Δ : Gh} {A4 : Option Addr} {c4 : Nat} {x : Dsite_ask} (h : Dsite_ask.fits Γ A4 c4 x) (hs : Γ.le Δ) : Dsite_ask.fits Δ A4 c4 x := by
  obtain ⟨h0, h1, h2, h3, h4⟩ := h
  exact ⟨h0, h1, h2, ⟨h3.1, h3.2.mono hs⟩, h4⟩
structure Dqueue_Entry where
  seq : Int
  rec_ : Rec
  route : (List Int)
  deriving Inhabited, DecidableEq
def Dqueue_Entry.bk (v : Dqueue_Entry) : Nat := 1 + bkOne v.seq + Rec.bk v.rec_ + (bkL bkOne) v.route
abbrev Dqueue_Entry.fits (Γ : Gh) (A2 : Option Addr) (c2 : Nat) (A3 : Option Addr) (c3 : Nat) (x : Dqueue_Entry) : Prop := I64 x.seq ∧ x.rec_.key.size ≤ lim ∧ (x.rec_.vers.length ≤ c2 ∧ Sl verT Γ A2 x.rec_.vers) ∧ (x.route.length ≤ c3 ∧ Sl intT Γ A3 x.route)
abbrev Dqueue_Entry.cs (A2 : Option Addr) (c2 : Nat) (A3 : Option Addr) (c3 : Nat) (x : Dqueue_Entry) : List Value := [.int .i64 x.seq, .string x.rec_.key, .slice A2 x.rec_.vers.length c2, .slice A3 x.route.length c3]
theorem Dqueue_Entry.fits_mono {Γ Δ : Gh} {A2 : Option Addr} {c2 : Nat} {A3 : Option Addr} {c3 : Nat} {x : Dqueue_Entry} (h : Dqueue_Entry.fits Γ A2 c2 A3 c3 x) (hs : Γ.le Δ) : Dqueue_Entry.fits Δ A2 c2 A3 c3 x := by
  obtain ⟨h0, h1, h2, h3⟩ := h
  exact ⟨h0, h1, ⟨h2.1, h2.2.mono hs⟩, ⟨h3.1, h3.2.mono hs⟩⟩
structure Dinbox_Far where
  from_ : Int
  seq : Int
  rec_ : Rec
  route : (List Int)
  deriving Inhabited, DecidableEq
def Dinbox_Far.bk (v : Dinbox_Far) : Nat := 1 + bkOne v.from_ + bkOne v.seq + Rec.bk v.rec_ + (bkL bkOne) v.route
abbrev Dinbox_Far.fits (Γ : Gh) (A3 : Option Addr) (c3 : Nat) (A4 : Option Addr) (c4 : Nat) (x : Dinbox_Far) : Prop := I64 x.from_ ∧ I64 x.seq ∧ x.rec_.key.size ≤ lim ∧ (x.rec_.vers.length ≤ c3 ∧ Sl verT Γ A3 x.rec_.vers) ∧ (x.route.length ≤ c4 ∧ Sl intT Γ A4 x.route)
abbrev Dinbox_Far.cs (A3 : Option Addr) (c3 : Nat) (A4 : Option Addr) (c4 : Nat) (x : Dinbox_Far) : List Value := [.int .i64 x.from_, .int .i64 x.seq, .string x.rec_.key, .slice A3 x.rec_.vers.length c3, .slice A4 x.route.length c4]
theorem Dinbox_Far.fits_mono {Γ Δ : Gh} {A3 : Option Addr} {c3 : Nat} {A4 : Option Addr} {c4 : Nat} {x : Dinbox_Far} (h : Dinbox_Far.fits Γ A3 c3 A4 c4 x) (hs : Γ.le Δ) : Dinbox_Far.fits Δ A3 c3 A4 c4 x := by
  obtain ⟨h0, h1, h2, h3, h4⟩ := h
  exact ⟨h0, h1, h2, ⟨h3.1, h3.2.mono hs⟩, ⟨h4.1, h4.2.mono hs⟩⟩
def dinbox_FarT : Ty Dinbox_Far where
  n := 5
  pos := by decide
  rd := fun Γ cs x => ∃ A3 c3 A4 c4, cs = Dinbox_Far.cs A3 c3 A4 c4 x ∧ Dinbox_Far.fits Γ A3 c3 A4 c4 x
  len := by rintro Γ cs x ⟨A3, c3, A4, c4, rfl, h⟩; rfl
  one := by rintro Γ cs x ⟨A3, c3, A4, c4, rfl, h⟩ u hu; simp only [Dinbox_Far.cs, List.mem_cons, List.not_mem_nil, or_false] at hu; rcases hu with rfl | rfl | rfl | rfl | rfl <;> rfl
  mono := by rintro Γ Δ cs x ⟨A3, c3, A4, c4, rfl, h⟩ hs; exact ⟨A3, c3, A4, c4, rfl, Dinbox_Far.fits_mono h hs⟩
structure Dinbox_Inbox where
  room : Int
  list : (List Dinbox_Far)
  deriving Inhabited, DecidableEq
def Dinbox_Inbox.bk (v : Dinbox_Inbox) : Nat := 1 + bkOne v.room + (bkL Dinbox_Far.bk) v.list
abbrev Dinbox_Inbox.fits (Γ : Gh) (A1 : Option Addr) (c1 : Nat) (x : Dinbox_Inbox) : Prop := I64 x.room ∧ (x.list.length ≤ c1 ∧ Sl dinbox_FarT Γ A1 x.list)
abbrev Dinbox_Inbox.cs (A1 : Option Addr) (c1 : Nat) (x : Dinbox_Inbox) : List Value := [.int .i64 x.room, .slice A1 x.list.length c1]
theorem Dinbox_Inbox.fits_mono {Γ Δ : Gh} {A1 : Option Addr} {c1 : Nat} {x : Dinbox_Inbox} (h : Dinbox_Inbox.fits Γ A1 c1 x) (hs : Γ.le Δ) : Dinbox_Inbox.fits Δ A1 c1 x := by
  obtain ⟨h0, h1⟩ := h
  exact ⟨h0, ⟨h1.1, h1.2.mono hs⟩⟩
structure Dsite_want where
  site : Int
  id : Int
  deriving Inhabited, DecidableEq
def Dsite_want.bk (v : Dsite_want) : Nat := 1 + bkOne v.site + bkOne v.id
abbrev Dsite_want.fits (Γ : Gh)  (x : Dsite_want) : Prop := I64 x.site ∧ I64 x.id
abbrev Dsite_want.cs  (x : Dsite_want) : List Value := [.int .i64 x.site, .int .i64 x.id]
theorem Dsite_want.fits_mono {Γ Δ : Gh}  {x : Dsite_want} (h : Dsite_want.fits Γ  x) (hs : Γ.le Δ) : Dsite_want.fits Δ  x := by
  exact h
structure Dsite_admin where
  op : Int
  members : (List Int)
  node : Int
  life : Int
  deriving Inhabited, DecidableEq
def Dsite_admin.bk (v : Dsite_admin) : Nat := 1 + bkOne v.op + (bkL bkOne) v.members + bkOne v.node + bkOne v.life
abbrev Dsite_admin.fits (Γ : Gh) (A1 : Option Addr) (c1 : Nat) (x : Dsite_admin) : Prop := I64 x.op ∧ (x.members.length ≤ c1 ∧ Sl intT Γ A1 x.members) ∧ I64 x.node ∧ I64 x.life
abbrev Dsite_admin.cs (A1 : Option Addr) (c1 : Nat) (x : Dsite_admin) : List Value := [.int .i64 x.op, .slice A1 x.members.length c1, .int .i64 x.node, .int .i64 x.life]
theorem Dsite_admin.fits_mono {Γ Δ : Gh} {A1 : Option Addr} {c1 : Nat} {x : Dsite_admin} (h : Dsite_admin.fits Γ A1 c1 x) (hs : Γ.le Δ) : Dsite_admin.fits Δ A1 c1 x := by
  obtain ⟨h0, h1, h2, h3⟩ := h
  exact ⟨h0, ⟨h1.1, h1.2.mono hs⟩, h2, h3⟩
structure Dfirthref06_Read where
  b : (List UInt8)
  at_ : Int
  bad : Bool
  deriving Inhabited, DecidableEq
def Dfirthref06_Read.bk (v : Dfirthref06_Read) : Nat := 1 + (bkL bkOne) v.b + bkOne v.at_ + bkOne v.bad
abbrev Dfirthref06_Read.fits (Γ : Gh) (A0 : Option Addr) (c0 : Nat) (x : Dfirthref06_Read) : Prop := (x.b.length ≤ c0 ∧ Sl byteT Γ A0 x.b) ∧ I64 x.at_
abbrev Dfirthref06_Read.cs (A0 : Option Addr) (c0 : Nat) (x : Dfirthref06_Read) : List Value := [.slice A0 x.b.length c0, .int .i64 x.at_, .bool x.bad]
theorem Dfirthref06_Read.fits_mono {Γ Δ : Gh} {A0 : Option Addr} {c0 : Nat} {x : Dfirthref06_Read} (h : Dfirthref06_Read.fits Γ A0 c0 x) (hs : Γ.le Δ) : Dfirthref06_Read.fits Δ A0 c0 x := by
  obtain ⟨h0, h1⟩ := h
  exact ⟨⟨h0.1, h0.2.mono hs⟩, h1⟩
structure Dqueue_entry where
  entry : Dqueue_Entry
  want : Nat
  deriving Inhabited, DecidableEq
def Dqueue_entry.bk (v : Dqueue_entry) : Nat := 1 + Dqueue_Entry.bk v.entry + bkOne v.want
abbrev Dqueue_entry.fits (Γ : Gh) (A2 : Option Addr) (c2 : Nat) (A3 : Option Addr) (c3 : Nat) (x : Dqueue_entry) : Prop := I64 x.entry.seq ∧ x.entry.rec_.key.size ≤ lim ∧ (x.entry.rec_.vers.length ≤ c2 ∧ Sl verT Γ A2 x.entry.rec_.vers) ∧ (x.entry.route.length ≤ c3 ∧ Sl intT Γ A3 x.entry.route)
abbrev Dqueue_entry.cs (A2 : Option Addr) (c2 : Nat) (A3 : Option Addr) (c3 : Nat) (x : Dqueue_entry) : List Value := [.int .i64 x.entry.seq, .string x.entry.rec_.key, .slice A2 x.entry.rec_.vers.length c2, .slice A3 x.entry.route.length c3, .map (some x.want)]
theorem Dqueue_entry.fits_mono {Γ Δ : Gh} {A2 : Option Addr} {c2 : Nat} {A3 : Option Addr} {c3 : Nat} {x : Dqueue_entry} (h : Dqueue_entry.fits Γ A2 c2 A3 c3 x) (hs : Γ.le Δ) : Dqueue_entry.fits Δ A2 c2 A3 c3 x := by
  obtain ⟨h0, h1, h2, h3⟩ := h
  exact ⟨h0, h1, ⟨h2.1, h2.2.mono hs⟩, ⟨h3.1, h3.2.mono hs⟩⟩
def dqueue_entryT : Ty Dqueue_entry where
  n := 5
  pos := by decide
  rd := fun Γ cs x => ∃ A2 c2 A3 c3, cs = Dqueue_entry.cs A2 c2 A3 c3 x ∧ Dqueue_entry.fits Γ A2 c2 A3 c3 x
  len := by rintro Γ cs x ⟨A2, c2, A3, c3, rfl, h⟩; rfl
  one := by rintro Γ cs x ⟨A2, c2, A3, c3, rfl, h⟩ u hu; simp only [Dqueue_entry.cs, List.mem_cons, List.not_mem_nil, or_false] at hu; rcases hu with rfl | rfl | rfl | rfl | rfl <;> rfl
  mono := by rintro Γ Δ cs x ⟨A2, c2, A3, c3, rfl, h⟩ hs; exact ⟨A2, c2, A3, c3, rfl, Dqueue_entry.fits_mono h hs⟩
structure Dqueue_reader where
  b : (List UInt8)
  at_ : Int
  bad : Bool
  deriving Inhabited, DecidableEq
def Dqueue_reader.bk (v : Dqueue_reader) : Nat := 1 + (bkL bkOne) v.b + bkOne v.at_ + bkOne v.bad
abbrev Dqueue_reader.fits (Γ : Gh) (A0 : Option Addr) (c0 : Nat) (x : Dqueue_reader) : Prop := (x.b.length ≤ c0 ∧ Sl byteT Γ A0 x.b) ∧ I64 x.at_
abbrev Dqueue_reader.cs (A0 : Option Addr) (c0 : Nat) (x : Dqueue_reader) : List Value := [.slice A0 x.b.length c0, .int .i64 x.at_, .bool x.bad]
theorem Dqueue_reader.fits_mono {Γ Δ : Gh} {A0 : Option Addr} {c0 : Nat} {x : Dqueue_reader} (h : Dqueue_reader.fits Γ A0 c0 x) (hs : Γ.le Δ) : Dqueue_reader.fits Δ A0 c0 x := by
  obtain ⟨h0, h1⟩ := h
  exact ⟨⟨h0.1, h0.2.mono hs⟩, h1⟩
structure Dqueue_issue where
  r : Rec
  deriving Inhabited, DecidableEq
def Dqueue_issue.bk (v : Dqueue_issue) : Nat := 1 + Rec.bk v.r
abbrev Dqueue_issue.fits (Γ : Gh) (A1 : Option Addr) (c1 : Nat) (x : Dqueue_issue) : Prop := x.r.key.size ≤ lim ∧ (x.r.vers.length ≤ c1 ∧ Sl verT Γ A1 x.r.vers)
abbrev Dqueue_issue.cs (A1 : Option Addr) (c1 : Nat) (x : Dqueue_issue) : List Value := [.string x.r.key, .slice A1 x.r.vers.length c1]
theorem Dqueue_issue.fits_mono {Γ Δ : Gh} {A1 : Option Addr} {c1 : Nat} {x : Dqueue_issue} (h : Dqueue_issue.fits Γ A1 c1 x) (hs : Γ.le Δ) : Dqueue_issue.fits Δ A1 c1 x := by
  obtain ⟨h0, h1⟩ := h
  exact ⟨h0, ⟨h1.1, h1.2.mono hs⟩⟩
structure Dqueue_did where
  route : (List Int)
  r : Rec
  deriving Inhabited, DecidableEq
def Dqueue_did.bk (v : Dqueue_did) : Nat := 1 + (bkL bkOne) v.route + Rec.bk v.r
abbrev Dqueue_did.fits (Γ : Gh) (A0 : Option Addr) (c0 : Nat) (A2 : Option Addr) (c2 : Nat) (x : Dqueue_did) : Prop := (x.route.length ≤ c0 ∧ Sl intT Γ A0 x.route) ∧ x.r.key.size ≤ lim ∧ (x.r.vers.length ≤ c2 ∧ Sl verT Γ A2 x.r.vers)
abbrev Dqueue_did.cs (A0 : Option Addr) (c0 : Nat) (A2 : Option Addr) (c2 : Nat) (x : Dqueue_did) : List Value := [.slice A0 x.route.length c0, .string x.r.key, .slice A2 x.r.vers.length c2]
theorem Dqueue_did.fits_mono {Γ Δ : Gh} {A0 : Option Addr} {c0 : Nat} {A2 : Option Addr} {c2 : Nat} {x : Dqueue_did} (h : Dqueue_did.fits Γ A0 c0 A2 c2 x) (hs : Γ.le Δ) : Dqueue_did.fits Δ A0 c0 A2 c2 x := by
  obtain ⟨h0, h1, h2⟩ := h
  exact ⟨⟨h0.1, h0.2.mono hs⟩, h1, ⟨h2.1, h2.2.mono hs⟩⟩
structure Dqueue_jump where
  vec : (List Int)
  deriving Inhabited, DecidableEq
def Dqueue_jump.bk (v : Dqueue_jump) : Nat := 1 + (bkL bkOne) v.vec
abbrev Dqueue_jump.fits (Γ : Gh) (A0 : Option Addr) (c0 : Nat) (x : Dqueue_jump) : Prop := (x.vec.length ≤ c0 ∧ Sl intT Γ A0 x.vec)
abbrev Dqueue_jump.cs (A0 : Option Addr) (c0 : Nat) (x : Dqueue_jump) : List Value := [.slice A0 x.vec.length c0]
theorem Dqueue_jump.fits_mono {Γ Δ : Gh} {A0 : Option Addr} {c0 : Nat} {x : Dqueue_jump} (h : Dqueue_jump.fits Γ A0 c0 x) (hs : Γ.le Δ) : Dqueue_jump.fits Δ A0 c0 x := by
  have h0 := h
  exact ⟨h0.1, h0.2.mono hs⟩
structure Dqueue_ack where
  sink : Int
  seq : Int
  deriving Inhabited, DecidableEq
def Dqueue_ack.bk (v : Dqueue_ack) : Nat := 1 + bkOne v.sink + bkOne v.seq
abbrev Dqueue_ack.fits (Γ : Gh)  (x : Dqueue_ack) : Prop := I64 x.sink ∧ I64 x.seq
abbrev Dqueue_ack.cs  (x : Dqueue_ack) : List Value := [.int .i64 x.sink, .int .i64 x.seq]
theorem Dqueue_ack.fits_mono {Γ Δ : Gh}  {x : Dqueue_ack} (h : Dqueue_ack.fits Γ  x) (hs : Γ.le Δ) : Dqueue_ack.fits Δ  x := by
  exact h
structure Dqueue_clear where
  sink : Int
  deriving Inhabited, DecidableEq
def Dqueue_clear.bk (v : Dqueue_clear) : Nat := 1 + bkOne v.sink
abbrev Dqueue_clear.fits (Γ : Gh)  (x : Dqueue_clear) : Prop := I64 x.sink
abbrev Dqueue_clear.cs  (x : Dqueue_clear) : List Value := [.int .i64 x.sink]
theorem Dqueue_clear.fits_mono {Γ Δ : Gh}  {x : Dqueue_clear} (h : Dqueue_clear.fits Γ  x) (hs : Γ.le Δ) : Dqueue_clear.fits Δ  x := by
  exact h
structure Dqueue_ringm where
  list : (List Int)
  deriving Inhabited, DecidableEq
def Dqueue_ringm.bk (v : Dqueue_ringm) : Nat := 1 + (bkL bkOne) v.list
abbrev Dqueue_ringm.fits (Γ : Gh) (A0 : Option Addr) (c0 : Nat) (x : Dqueue_ringm) : Prop := (x.list.length ≤ c0 ∧ Sl intT Γ A0 x.list)
abbrev Dqueue_ringm.cs (A0 : Option Addr) (c0 : Nat) (x : Dqueue_ringm) : List Value := [.slice A0 x.list.length c0]
theorem Dqueue_ringm.fits_mono {Γ Δ : Gh} {A0 : Option Addr} {c0 : Nat} {x : Dqueue_ringm} (h : Dqueue_ringm.fits Γ A0 c0 x) (hs : Γ.le Δ) : Dqueue_ringm.fits Δ A0 c0 x := by
  have h0 := h
  exact ⟨h0.1, h0.2.mono hs⟩
structure Dqueue_nextn where
  seq : Int
  deriving Inhabited, DecidableEq
def Dqueue_nextn.bk (v : Dqueue_nextn) : Nat := 1 + bkOne v.seq
abbrev Dqueue_nextn.fits (Γ : Gh)  (x : Dqueue_nextn) : Prop := I64 x.seq
abbrev Dqueue_nextn.cs  (x : Dqueue_nextn) : List Value := [.int .i64 x.seq]
theorem Dqueue_nextn.fits_mono {Γ Δ : Gh}  {x : Dqueue_nextn} (h : Dqueue_nextn.fits Γ  x) (hs : Γ.le Δ) : Dqueue_nextn.fits Δ  x := by
  exact h
structure Dqueue_lay where
  seq : Int
  sinks : (List Int)
  path : (List Int)
  r : Rec
  deriving Inhabited, DecidableEq
def Dqueue_lay.bk (v : Dqueue_lay) : Nat := 1 + bkOne v.seq + (bkL bkOne) v.sinks + (bkL bkOne) v.path + Rec.bk v.r
abbrev Dqueue_lay.fits (Γ : Gh) (A1 : Option Addr) (c1 : Nat) (A2 : Option Addr) (c2 : Nat) (A4 : Option Addr) (c4 : Nat) (x : Dqueue_lay) : Prop := I64 x.seq ∧ (x.sinks.length ≤ c1 ∧ Sl intT Γ A1 x.sinks) ∧ (x.path.length ≤ c2 ∧ Sl intT Γ A2 x.path) ∧ x.r.key.size ≤ lim ∧ (x.r.vers.length ≤ c4 ∧ Sl verT Γ A4 x.r.vers)
abbrev Dqueue_lay.cs (A1 : Option Addr) (c1 : Nat) (A2 : Option Addr) (c2 : Nat) (A4 : Option Addr) (c4 : Nat) (x : Dqueue_lay) : List Value := [.int .i64 x.seq, .slice A1 x.sinks.length c1, .slice A2 x.path.length c2, .string x.r.key, .slice A4 x.r.vers.length c4]
theorem Dqueue_lay.fits_mono {Γ Δ : Gh} {A1 : Option Addr} {c1 : Nat} {A2 : Option Addr} {c2 : Nat} {A4 : Option Addr} {c4 : Nat} {x : Dqueue_lay} (h : Dqueue_lay.fits Γ A1 c1 A2 c2 A4 c4 x) (hs : Γ.le Δ) : Dqueue_lay.fits Δ A1 c1 A2 c2 A4 c4 x := by
  obtain ⟨h0, h1, h2, h3, h4⟩ := h
  exact ⟨h0, ⟨h1.1, h1.2.mono hs⟩, ⟨h2.1, h2.2.mono hs⟩, h3, ⟨h4.1, h4.2.mono hs⟩⟩
structure Dqueue_gap where
  sink : Int
  deriving Inhabited, DecidableEq
def Dqueue_gap.bk (v : Dqueue_gap) : Nat := 1 + bkOne v.sink
abbrev Dqueue_gap.fits (Γ : Gh)  (x : Dqueue_gap) : Prop := I64 x.sink
abbrev Dqueue_gap.cs  (x : Dqueue_gap) : List Value := [.int .i64 x.sink]
theorem Dqueue_gap.fits_mono {Γ Δ : Gh}  {x : Dqueue_gap} (h : Dqueue_gap.fits Γ  x) (hs : Γ.le Δ) : Dqueue_gap.fits Δ  x := by
  exact h
structure Dring_Move where
  part : Int
  old : (List Int)
  new : (List Int)
  deriving Inhabited, DecidableEq
def Dring_Move.bk (v : Dring_Move) : Nat := 1 + bkOne v.part + (bkL bkOne) v.old + (bkL bkOne) v.new
abbrev Dring_Move.fits (Γ : Gh) (A1 : Option Addr) (c1 : Nat) (A2 : Option Addr) (c2 : Nat) (x : Dring_Move) : Prop := I64 x.part ∧ (x.old.length ≤ c1 ∧ Sl intT Γ A1 x.old) ∧ (x.new.length ≤ c2 ∧ Sl intT Γ A2 x.new)
abbrev Dring_Move.cs (A1 : Option Addr) (c1 : Nat) (A2 : Option Addr) (c2 : Nat) (x : Dring_Move) : List Value := [.int .i64 x.part, .slice A1 x.old.length c1, .slice A2 x.new.length c2]
theorem Dring_Move.fits_mono {Γ Δ : Gh} {A1 : Option Addr} {c1 : Nat} {A2 : Option Addr} {c2 : Nat} {x : Dring_Move} (h : Dring_Move.fits Γ A1 c1 A2 c2 x) (hs : Γ.le Δ) : Dring_Move.fits Δ A1 c1 A2 c2 x := by
  obtain ⟨h0, h1, h2⟩ := h
  exact ⟨h0, ⟨h1.1, h1.2.mono hs⟩, ⟨h2.1, h2.2.mono hs⟩⟩
structure Dpull_way where
  a0 : Int
  a1 : Int
  deriving Inhabited, DecidableEq
def Dpull_way.bk (v : Dpull_way) : Nat := 1 + bkOne v.a0 + bkOne v.a1
abbrev Dpull_way.fits (Γ : Gh)  (x : Dpull_way) : Prop := I64 x.a0 ∧ I64 x.a1
abbrev Dpull_way.cs  (x : Dpull_way) : List Value := [.int .i64 x.a0, .int .i64 x.a1]
theorem Dpull_way.fits_mono {Γ Δ : Gh}  {x : Dpull_way} (h : Dpull_way.fits Γ  x) (hs : Γ.le Δ) : Dpull_way.fits Δ  x := by
  exact h
structure Dapi_arr3 where
  a0 : Int
  a1 : Int
  a2 : Int
  deriving Inhabited, DecidableEq
def Dapi_arr3.bk (v : Dapi_arr3) : Nat := 1 + bkOne v.a0 + bkOne v.a1 + bkOne v.a2
abbrev Dapi_arr3.fits (Γ : Gh)  (x : Dapi_arr3) : Prop := I64 x.a0 ∧ I64 x.a1 ∧ I64 x.a2
abbrev Dapi_arr3.cs  (x : Dapi_arr3) : List Value := [.int .i64 x.a0, .int .i64 x.a1, .int .i64 x.a2]
theorem Dapi_arr3.fits_mono {Γ Δ : Gh}  {x : Dapi_arr3} (h : Dapi_arr3.fits Γ  x) (hs : Γ.le Δ) : Dapi_arr3.fits Δ  x := by
  exact h
structure Dcode_writer where
  b : (List UInt8)
  deriving Inhabited, DecidableEq
def Dcode_writer.bk (v : Dcode_writer) : Nat := 1 + (bkL bkOne) v.b
abbrev Dcode_writer.fits (Γ : Gh) (A0 : Option Addr) (c0 : Nat) (x : Dcode_writer) : Prop := (x.b.length ≤ c0 ∧ Sl byteT Γ A0 x.b)
abbrev Dcode_writer.cs (A0 : Option Addr) (c0 : Nat) (x : Dcode_writer) : List Value := [.slice A0 x.b.length c0]
theorem Dcode_writer.fits_mono {Γ Δ : Gh} {A0 : Option Addr} {c0 : Nat} {x : Dcode_writer} (h : Dcode_writer.fits Γ A0 c0 x) (hs : Γ.le Δ) : Dcode_writer.fits Δ A0 c0 x := by
  have h0 := h
  exact ⟨h0.1, h0.2.mono hs⟩
inductive Cdisk_change_do where
  | disk_Disk_Cut_1 (a0 : ByteArray) (a1 : Int)
  | disk_Disk_Remove_1 (a0 : ByteArray)
  | disk_add_1 (a0 : ByteArray) (a1 : (List UInt8))
  deriving Inhabited, DecidableEq
def Cdisk_change_do.fid : Cdisk_change_do → FuncId
  | .disk_Disk_Cut_1 _ _ => 310
  | .disk_Disk_Remove_1 _ => 316
  | .disk_add_1 _ _ => 400
def Cdisk_change_do.caps : Cdisk_change_do → Option Addr → Nat → Array Value
  | .disk_Disk_Cut_1 _ _, A, c => #[.pointer (some ⟨c, 0, none⟩), .pointer A]
  | .disk_Disk_Remove_1 _, A, c => #[.pointer (some ⟨c, 0, none⟩)]
  | .disk_add_1 _ _, A, c => #[.pointer (some ⟨c, 0, none⟩), .pointer A]
def Cdisk_change_do.val (x : Cdisk_change_do) (A : Option Addr) (c : Nat) : Value := .func (.func (Cdisk_change_do.fid x)) #[] (Cdisk_change_do.caps x A c)
theorem Cdisk_change_do.val_one (x : Cdisk_change_do) (A : Option Addr) (c : Nat) : (Cdisk_change_do.val x A c).oneCell' = true := rfl
def Cdisk_change_do.ok (Γ : Gh) (A : Option Addr) (c : Nat) : Cdisk_change_do → Prop
  | .disk_Disk_Cut_1 a0 a1 => (Γ c = some (.cells #[.string a0] 9 (0, 0)) ∧ a0.size ≤ lim) ∧ (∃ (g1 : Nat), A = some ⟨g1, 0, none⟩ ∧ Γ g1 = some (.cells #[.int .i64 a1] 3 (0, 0)) ∧ I64 a1) ∧ True
  | .disk_Disk_Remove_1 a0 => (Γ c = some (.cells #[.string a0] 9 (0, 0)) ∧ a0.size ≤ lim) ∧ True
  | .disk_add_1 a0 a1 => (Γ c = some (.cells #[.string a0] 9 (0, 0)) ∧ a0.size ≤ lim) ∧ (∃ (g1 : Nat) (A1_0 : Option Addr) (c1_0 : Nat), A = some ⟨g1, 0, none⟩ ∧ Γ g1 = some (.cells #[.slice A1_0 a1.length c1_0] 61 (0, 0)) ∧ a1.length ≤ c1_0 ∧ Sl byteT Γ A1_0 a1) ∧ True
theorem Cdisk_change_do.ok.mono {Γ Δ : Gh} {A : Option Addr} {c : Nat} : ∀ {x : Cdisk_change_do}, Cdisk_change_do.ok Γ A c x → Γ.le Δ → Cdisk_change_do.ok Δ A c x := by
  intro x h hs; revert h; exact match x with
  | .disk_Disk_Cut_1 _ _ => fun ⟨⟨h0_0, h0_1⟩, ⟨g1, h1_0, h1_1, h1_2⟩, _⟩ => ⟨⟨hs _ _ h0_0, h0_1⟩, ⟨g1, h1_0, hs _ _ h1_1, h1_2⟩, trivial⟩
  | .disk_Disk_Remove_1 _ => fun ⟨⟨h0_0, h0_1⟩, _⟩ => ⟨⟨hs _ _ h0_0, h0_1⟩, trivial⟩
  | .disk_add_1 _ _ => fun ⟨⟨h0_0, h0_1⟩, ⟨g1, A1_0, c1_0, h1_0, h1_1, h1_2, h1_3⟩, _⟩ => ⟨⟨hs _ _ h0_0, h0_1⟩, ⟨g1, A1_0, c1_0, h1_0, hs _ _ h1_1, h1_2, h1_3.mono hs⟩, trivial⟩
structure Ddisk_change where
  do_ : Cdisk_change_do
  name : ByteArray
  tail : (List UInt8)
  deriving Inhabited, DecidableEq
def Ddisk_change.bk (v : Ddisk_change) : Nat := 1 + bkOne v.do_ + bkStr v.name + (bkL bkOne) v.tail
abbrev Ddisk_change.fits (Γ : Gh) (A0 : Option Addr) (c0 : Nat) (A2 : Option Addr) (c2 : Nat) (x : Ddisk_change) : Prop := Cdisk_change_do.ok Γ A0 c0 x.do_ ∧ x.name.size ≤ lim ∧ (x.tail.length ≤ c2 ∧ Sl byteT Γ A2 x.tail)
abbrev Ddisk_change.cs (A0 : Option Addr) (c0 : Nat) (A2 : Option Addr) (c2 : Nat) (x : Ddisk_change) : List Value := [Cdisk_change_do.val x.do_ A0 c0, .string x.name, .slice A2 x.tail.length c2]
theorem Ddisk_change.fits_mono {Γ Δ : Gh} {A0 : Option Addr} {c0 : Nat} {A2 : Option Addr} {c2 : Nat} {x : Ddisk_change} (h : Ddisk_change.fits Γ A0 c0 A2 c2 x) (hs : Γ.le Δ) : Ddisk_change.fits Δ A0 c0 A2 c2 x := by
  obtain ⟨h0, h1, h2⟩ := h
  exact ⟨Cdisk_change_do.ok.mono h0 hs, h1, ⟨h2.1, h2.2.mono hs⟩⟩
def ddisk_changeT : Ty Ddisk_change where
  n := 3
  pos := by decide
  rd := fun Γ cs x => ∃ A0 c0 A2 c2, cs = Ddisk_change.cs A0 c0 A2 c2 x ∧ Ddisk_change.fits Γ A0 c0 A2 c2 x
  len := by rintro Γ cs x ⟨A0, c0, A2, c2, rfl, h⟩; rfl
  one := by rintro Γ cs x ⟨A0, c0, A2, c2, rfl, h⟩ u hu; simp only [Ddisk_change.cs, List.mem_cons, List.not_mem_nil, or_false] at hu; rcases hu with rfl | rfl | rfl <;> first | rfl | exact Cdisk_change_do.val_one _ _ _
  mono := by rintro Γ Δ cs x ⟨A0, c0, A2, c2, rfl, h⟩ hs; exact ⟨A0, c0, A2, c2, rfl, Ddisk_change.fits_mono h hs⟩
structure Dcode_reader where
  b : (List UInt8)
  at_ : Int
  deriving Inhabited, DecidableEq
def Dcode_reader.bk (v : Dcode_reader) : Nat := 1 + (bkL bkOne) v.b + bkOne v.at_
abbrev Dcode_reader.fits (Γ : Gh) (A0 : Option Addr) (c0 : Nat) (x : Dcode_reader) : Prop := (x.b.length ≤ c0 ∧ Sl byteT Γ A0 x.b) ∧ I64 x.at_
abbrev Dcode_reader.cs (A0 : Option Addr) (c0 : Nat) (x : Dcode_reader) : List Value := [.slice A0 x.b.length c0, .int .i64 x.at_]
theorem Dcode_reader.fits_mono {Γ Δ : Gh} {A0 : Option Addr} {c0 : Nat} {x : Dcode_reader} (h : Dcode_reader.fits Γ A0 c0 x) (hs : Γ.le Δ) : Dcode_reader.fits Δ A0 c0 x := by
  obtain ⟨h0, h1⟩ := h
  exact ⟨⟨h0.1, h0.2.mono hs⟩, h1⟩
structure Dring_point where
  at_ : Int
  node : Int
  deriving Inhabited, DecidableEq
def Dring_point.bk (v : Dring_point) : Nat := 1 + bkOne v.at_ + bkOne v.node
abbrev Dring_point.fits (Γ : Gh)  (x : Dring_point) : Prop := U64 x.at_ ∧ I64 x.node
abbrev Dring_point.cs  (x : Dring_point) : List Value := [.int .u64 x.at_, .int .i64 x.node]
theorem Dring_point.fits_mono {Γ Δ : Gh}  {x : Dring_point} (h : Dring_point.fits Γ  x) (hs : Γ.le Δ) : Dring_point.fits Δ  x := by
  exact h
end Fw
end Go.Proofs.YtogmioecalmalaaGreat
