/- The data types of the program, as Lean structures, and what they are in memory. No condition. -/
import Derived.Test.YtogmioecalmalaaGreatK10
namespace Go.Proofs.YtogmioecalmalaaGreat
namespace Fw
set_option linter.unusedVariables false
set_option linter.unusedSimpArgs false
set_option linter.unusedSectionVars false
open Go.RowKit
structure aJ where
 x_ : Int
 y : Int
 signed : Bool
 code : UInt8
 deriving Inhabited, DecidableEq
def aJ.bk (v : aJ) : Nat := 1 + ax v.x_ + ax v.y + ax v.signed + ax v.code
abbrev aJ.fits (Γ : Gh)  (x : aJ) : Prop := I64 x.x_ ∧ I64 x.y
abbrev aJ.cs  (x : aJ) : List Value := [.int .i64 x.x_, .int .i64 x.y, .bool x.signed, .int .u8 (x.code.toNat : Int)]
theorem aJ.fits_mono {Γ Δ : Gh}  {x : aJ} (h : aJ.fits Γ  x) (hs : Γ.le Δ) : aJ.fits Δ  x := by
 exact h
structure aB where
 msg : ByteArray
 addr : Int
 deriving Inhabited, DecidableEq
def aB.bk (v : aB) : Nat := 1 + kY v.msg + ax v.addr
abbrev aB.fits (Γ : Gh)  (x : aB) : Prop := x.msg.size ≤ lim ∧ U64 x.addr
abbrev aB.cs  (x : aB) : List Value := [.string x.msg, .int .u64 x.addr]
theorem aB.fits_mono {Γ Δ : Gh}  {x : aB} (h : aB.fits Γ  x) (hs : Γ.le Δ) : aB.fits Δ  x := by
 exact h
structure al where
 a0 : Int
 a1 : Int
 deriving Inhabited, DecidableEq
def al.bk (v : al) : Nat := 1 + ax v.a0 + ax v.a1
abbrev al.fits (Γ : Gh)  (x : al) : Prop := I64 x.a0 ∧ I64 x.a1
abbrev al.cs  (x : al) : List Value := [.int .i64 x.a0, .int .i64 x.a1]
theorem al.fits_mono {Γ Δ : Gh}  {x : al} (h : al.fits Γ  x) (hs : Γ.le Δ) : al.fits Δ  x := by
 exact h
def bC : Ty al where
 n := 2
 pos := by decide
 rd := fun Γ cs x => cs = al.cs  x ∧ al.fits Γ  x
 len := by rintro Γ cs x ⟨rfl, h⟩; rfl
 one := by rintro Γ cs x ⟨rfl, h⟩ u hu; simp only [al.cs, List.mem_cons, List.not_mem_nil, or_false] at hu; rcases hu with rfl | rfl <;> rfl
 mono := by rintro Γ Δ cs x ⟨rfl, h⟩ hs; exact ⟨rfl, al.fits_mono h hs⟩
theorem Sl.dapi_arr2T_at {Γ : Gh} {A : Option Addr} {xs : List al} {i : Nat} (h : Sl bC Γ A xs) (hi : i < xs.length) : al.fits Γ (gt xs i) ∧ gP Γ A (i * 2) (al.cs (gt xs i)) := by
 obtain ⟨cs, ⟨rfl, h1⟩, h2⟩ := h.get i hi
 exact ⟨h1, h2⟩
theorem Own.dapi_arr2T_at {Γ : Gh} {A : Option Addr} {xs : List al} {e c : Nat} {row : Rowb} {i : Nat} (h : Own bC Γ e row A c xs) (hi : i < xs.length) : al.fits Γ (gt xs i) ∧ jb row A (i * 2) (al.cs (gt xs i)) := by
 obtain ⟨cs, ⟨rfl, h1⟩, h2⟩ := h.get hi
 exact ⟨h1, h2⟩
structure aC where
 sites : Int
 links : (List al)
 nodes : Int
 members : (List Int)
 n : Int
 r : Int
 w_ : Int
 group : Int
 secret : ByteArray
 room : Int
 seg : Int
 cap : Int
 pend : Int
 wait : Int
 timeout : Int
 hintAfter : Int
 base : Int
 deriving Inhabited, DecidableEq
def aC.bk (v : aC) : Nat := 1 + ax v.sites + (bkL al.bk) v.links + ax v.nodes + (bkL ax) v.members + ax v.n + ax v.r + ax v.w_ + ax v.group + kY v.secret + ax v.room + ax v.seg + ax v.cap + ax v.pend + ax v.wait + ax v.timeout + ax v.hintAfter + ax v.base
abbrev aC.fits (Γ : Gh) (A1 : Option Addr) (c1 : Nat) (A3 : Option Addr) (c3 : Nat) (x : aC) : Prop := I64 x.sites ∧ (x.links.length ≤ c1 ∧ Sl bC Γ A1 x.links) ∧ I64 x.nodes ∧ (x.members.length ≤ c3 ∧ Sl intT Γ A3 x.members) ∧ I64 x.n ∧ I64 x.r ∧ I64 x.w_ ∧ I64 x.group ∧ x.secret.size ≤ lim ∧ I64 x.room ∧ I64 x.seg ∧ I64 x.cap ∧ I64 x.pend ∧ I64 x.wait ∧ I64 x.timeout ∧ I64 x.hintAfter ∧ I64 x.base
abbrev aC.cs (A1 : Option Addr) (c1 : Nat) (A3 : Option Addr) (c3 : Nat) (x : aC) : List Value := [.int .i64 x.sites, .slice A1 x.links.length c1, .int .i64 x.nodes, .slice A3 x.members.length c3, .int .i64 x.n, .int .i64 x.r, .int .i64 x.w_, .int .i64 x.group, .string x.secret, .int .i64 x.room, .int .i64 x.seg, .int .i64 x.cap, .int .i64 x.pend, .int .i64 x.wait, .int .i64 x.timeout, .int .i64 x.hintAfter, .int .i64 x.base]
theorem aC.fits_mono {Γ Δ : Gh} {A1 : Option Addr} {c1 : Nat} {A3 : Option Addr} {c3 : Nat} {x : aC} (h : aC.fits Γ A1 c1 A3 c3 x) (hs : Γ.le Δ) : aC.fits Δ A1 c1 A3 c3 x := by
 obtain ⟨h0, h1, h2, h3, h4, h5, h6, h7, h8, h9, h10, h11, h12, h13, h14, h15, h16⟩ := h
 exact ⟨h0, ⟨h1.1, h1.2.mono hs⟩, h2, ⟨h3.1, h3.2.mono hs⟩, h4, h5, h6, h7, h8, h9, h10, h11, h12, h13, h14, h15, h16⟩
structure Adr where
 site : Int
 node : Int
 deriving Inhabited, DecidableEq
def Adr.bk (v : Adr) : Nat := 1 + ax v.site + ax v.node
abbrev Adr.fits (Γ : Gh)  (x : Adr) : Prop := I64 x.site ∧ I64 x.node
abbrev Adr.cs  (x : Adr) : List Value := [.int .i64 x.site, .int .i64 x.node]
theorem Adr.fits_mono {Γ Δ : Gh}  {x : Adr} (h : Adr.fits Γ  x) (hs : Γ.le Δ) : Adr.fits Δ  x := by
 exact h
structure Dot where
 s : Int
 n : Int
 deriving Inhabited, DecidableEq
def Dot.bk (v : Dot) : Nat := 1 + ax v.s + ax v.n
abbrev Dot.fits (Γ : Gh)  (x : Dot) : Prop := I64 x.s ∧ I64 x.n
abbrev Dot.cs  (x : Dot) : List Value := [.int .i64 x.s, .int .i64 x.n]
theorem Dot.fits_mono {Γ Δ : Gh}  {x : Dot} (h : Dot.fits Γ  x) (hs : Γ.le Δ) : Dot.fits Δ  x := by
 exact h
structure Span where
 s : Int
 f : Int
 t : Int
 deriving Inhabited, DecidableEq
def Span.bk (v : Span) : Nat := 1 + ax v.s + ax v.f + ax v.t
abbrev Span.fits (Γ : Gh)  (x : Span) : Prop := I64 x.s ∧ I64 x.f ∧ I64 x.t
abbrev Span.cs  (x : Span) : List Value := [.int .i64 x.s, .int .i64 x.f, .int .i64 x.t]
theorem Span.fits_mono {Γ Δ : Gh}  {x : Span} (h : Span.fits Γ  x) (hs : Γ.le Δ) : Span.fits Δ  x := by
 exact h
def aW : Ty Span where
 n := 3
 pos := by decide
 rd := fun Γ cs x => cs = Span.cs  x ∧ Span.fits Γ  x
 len := by rintro Γ cs x ⟨rfl, h⟩; rfl
 one := by rintro Γ cs x ⟨rfl, h⟩ u hu; simp only [Span.cs, List.mem_cons, List.not_mem_nil, or_false] at hu; rcases hu with rfl | rfl | rfl <;> rfl
 mono := by rintro Γ Δ cs x ⟨rfl, h⟩ hs; exact ⟨rfl, Span.fits_mono h hs⟩
theorem Sl.spanT_at {Γ : Gh} {A : Option Addr} {xs : List Span} {i : Nat} (h : Sl aW Γ A xs) (hi : i < xs.length) : Span.fits Γ (gt xs i) ∧ gP Γ A (i * 3) (Span.cs (gt xs i)) := by
 obtain ⟨cs, ⟨rfl, h1⟩, h2⟩ := h.get i hi
 exact ⟨h1, h2⟩
theorem Own.spanT_at {Γ : Gh} {A : Option Addr} {xs : List Span} {e c : Nat} {row : Rowb} {i : Nat} (h : Own aW Γ e row A c xs) (hi : i < xs.length) : Span.fits Γ (gt xs i) ∧ jb row A (i * 3) (Span.cs (gt xs i)) := by
 obtain ⟨cs, ⟨rfl, h1⟩, h2⟩ := h.get hi
 exact ⟨h1, h2⟩
structure Ver where
 dot : Dot
 past : (List Span)
 gone : Bool
 val : ByteArray
 deriving Inhabited, DecidableEq
def Ver.bk (v : Ver) : Nat := 1 + Dot.bk v.dot + (bkL Span.bk) v.past + ax v.gone + kY v.val
abbrev Ver.fits (Γ : Gh) (A2 : Option Addr) (c2 : Nat) (x : Ver) : Prop := I64 x.dot.s ∧ I64 x.dot.n ∧ (x.past.length ≤ c2 ∧ Sl aW Γ A2 x.past) ∧ x.val.size ≤ lim
abbrev Ver.cs (A2 : Option Addr) (c2 : Nat) (x : Ver) : List Value := [.int .i64 x.dot.s, .int .i64 x.dot.n, .slice A2 x.past.length c2, .bool x.gone, .string x.val]
theorem Ver.fits_mono {Γ Δ : Gh} {A2 : Option Addr} {c2 : Nat} {x : Ver} (h : Ver.fits Γ A2 c2 x) (hs : Γ.le Δ) : Ver.fits Δ A2 c2 x := by
 obtain ⟨h0, h1, h2, h3⟩ := h
 exact ⟨h0, h1, ⟨h2.1, h2.2.mono hs⟩, h3⟩
def verT : Ty Ver where
 n := 5
 pos := by decide
 rd := fun Γ cs x => ∃ A2 c2, cs = Ver.cs A2 c2 x ∧ Ver.fits Γ A2 c2 x
 len := by rintro Γ cs x ⟨A2, c2, rfl, h⟩; rfl
 one := by rintro Γ cs x ⟨A2, c2, rfl, h⟩ u hu; simp only [Ver.cs, List.mem_cons, List.not_mem_nil, or_false] at hu; rcases hu with rfl | rfl | rfl | rfl | rfl <;> rfl
 mono := by rintro Γ Δ cs x ⟨A2, c2, rfl, h⟩ hs; exact ⟨A2, c2, rfl, Ver.fits_mono h hs⟩
structure Rec where
 key : ByteArray
 vers : (List Ver)
 deriving Inhabited, DecidableEq
def Rec.bk (v : Rec) : Nat := 1 + kY v.key + (bkL Ver.bk) v.vers
abbrev Rec.fits (Γ : Gh) (A1 : Option Addr) (c1 : Nat) (x : Rec) : Prop := x.key.size ≤ lim ∧ (x.vers.length ≤ c1 ∧ Sl verT Γ A1 x.vers)
abbrev Rec.cs (A1 : Option Addr) (c1 : Nat) (x : Rec) : List Value := [.string x.key, .slice A1 x.vers.length c1]
theorem Rec.fits_mono {Γ Δ : Gh} {A1 : Option Addr} {c1 : Nat} {x : Rec} (h : Rec.fits Γ A1 c1 x) (hs : Γ.le Δ) : Rec.fits Δ A1 c1 x := by
 obtain ⟨h0, h1⟩ := h
 exact ⟨h0, ⟨h1.1, h1.2.mono hs⟩⟩
def recT : Ty Rec where
 n := 2
 pos := by decide
 rd := fun Γ cs x => ∃ A1 c1, cs = Rec.cs A1 c1 x ∧ Rec.fits Γ A1 c1 x
 len := by rintro Γ cs x ⟨A1, c1, rfl, h⟩; rfl
 one := by rintro Γ cs x ⟨A1, c1, rfl, h⟩ u hu; simp only [Rec.cs, List.mem_cons, List.not_mem_nil, or_false] at hu; rcases hu with rfl | rfl <;> rfl
 mono := by rintro Γ Δ cs x ⟨A1, c1, rfl, h⟩ hs; exact ⟨A1, c1, rfl, Rec.fits_mono h hs⟩
structure bu where
 kind : Int
 from_ : Adr
 to_ : Adr
 id : Int
 n : Int
 for_ : Int
 code : Int
 key : ByteArray
 recs : (List Rec)
 vec : (List Int)
 path : (List Int)
 hashes : (List Int)
 route : (List Int)
 deriving Inhabited, DecidableEq
def bu.bk (v : bu) : Nat := 1 + ax v.kind + Adr.bk v.from_ + Adr.bk v.to_ + ax v.id + ax v.n + ax v.for_ + ax v.code + kY v.key + (bkL Rec.bk) v.recs + (bkL ax) v.vec + (bkL ax) v.path + (bkL ax) v.hashes + (bkL ax) v.route
abbrev bu.fits (Γ : Gh) (A10 : Option Addr) (c10 : Nat) (A11 : Option Addr) (c11 : Nat) (A12 : Option Addr) (c12 : Nat) (A13 : Option Addr) (c13 : Nat) (A14 : Option Addr) (c14 : Nat) (x : bu) : Prop := I64 x.kind ∧ I64 x.from_.site ∧ I64 x.from_.node ∧ I64 x.to_.site ∧ I64 x.to_.node ∧ I64 x.id ∧ I64 x.n ∧ I64 x.for_ ∧ I64 x.code ∧ x.key.size ≤ lim ∧ (x.recs.length ≤ c10 ∧ Sl recT Γ A10 x.recs) ∧ (x.vec.length ≤ c11 ∧ Sl intT Γ A11 x.vec) ∧ (x.path.length ≤ c12 ∧ Sl intT Γ A12 x.path) ∧ (x.hashes.length ≤ c13 ∧ Sl u64T Γ A13 x.hashes) ∧ (x.route.length ≤ c14 ∧ Sl intT Γ A14 x.route)
abbrev bu.cs (A10 : Option Addr) (c10 : Nat) (A11 : Option Addr) (c11 : Nat) (A12 : Option Addr) (c12 : Nat) (A13 : Option Addr) (c13 : Nat) (A14 : Option Addr) (c14 : Nat) (x : bu) : List Value := [.int .i64 x.kind, .int .i64 x.from_.site, .int .i64 x.from_.node, .int .i64 x.to_.site, .int .i64 x.to_.node, .int .i64 x.id, .int .i64 x.n, .int .i64 x.for_, .int .i64 x.code, .string x.key, .slice A10 x.recs.length c10, .slice A11 x.vec.length c11, .slice A12 x.path.length c12, .slice A13 x.hashes.length c13, .slice A14 x.route.length c14]
theorem bu.fits_mono {Γ Δ : Gh} {A10 : Option Addr} {c10 : Nat} {A11 : Option Addr} {c11 : Nat} {A12 : Option Addr} {c12 : Nat} {A13 : Option Addr} {c13 : Nat} {A14 : Option Addr} {c14 : Nat} {x : bu} (h : bu.fits Γ A10 c10 A11 c11 A12 c12 A13 c13 A14 c14 x) (hs : Γ.le Δ) : bu.fits Δ A10 c10 A11 c11 A12 c12 A13 c13 A14 c14 x := by
 obtain ⟨h0, h1, h2, h3, h4, h5, h6, h7, h8, h9, h10, h11, h12, h13, h14⟩ := h
 exact ⟨h0, h1, h2, h3, h4, h5, h6, h7, h8, h9, ⟨h10.1, h10.2.mono hs⟩, ⟨h11.1, h11.2.mono hs⟩, ⟨h12.1, h12.2.mono hs⟩, ⟨h13.1, h13.2.mono hs⟩, ⟨h14.1, h14.2.mono hs⟩⟩
def iy : Ty bu where
 n := 15
 pos := by decide
 rd := fun Γ cs x => ∃ A10 c10 A11 c11 A12 c12 A13 c13 A14 c14, cs = bu.cs A10 c10 A11 c11 A12 c12 A13 c13 A14 c14 x ∧ bu.fits Γ A10 c10 A11 c11 A12 c12 A13 c13 A14 c14 x
 len := by rintro Γ cs x ⟨A10, c10, A11, c11, A12, c12, A13, c13, A14, c14, rfl, h⟩; rfl
 one := by rintro Γ cs x ⟨A10, c10, A11, c11, A12, c12, A13, c13, A14, c14, rfl, h⟩ u hu; simp only [bu.cs, List.mem_cons, List.not_mem_nil, or_false] at hu; rcases hu with rfl | rfl | rfl | rfl | rfl | rfl | rfl | rfl | rfl | rfl | rfl | rfl | rfl | rfl | rfl <;> rfl
 mono := by rintro Γ Δ cs x ⟨A10, c10, A11, c11, A12, c12, A13, c13, A14, c14, rfl, h⟩ hs; exact ⟨A10, c10, A11, c11, A12, c12, A13, c13, A14, c14, rfl, bu.fits_mono h hs⟩
structure aH where
 op : Int
 err : Int
 dot : Dot
 vers : (List Ver)
 token : (List UInt8)
 deriving Inhabited, DecidableEq
def aH.bk (v : aH) : Nat := 1 + ax v.op + ax v.err + Dot.bk v.dot + (bkL Ver.bk) v.vers + (bkL ax) v.token
abbrev aH.fits (Γ : Gh) (A4 : Option Addr) (c4 : Nat) (A5 : Option Addr) (c5 : Nat) (x : aH) : Prop := I64 x.op ∧ I64 x.err ∧ I64 x.dot.s ∧ I64 x.dot.n ∧ (x.vers.length ≤ c4 ∧ Sl verT Γ A4 x.vers) ∧ (x.token.length ≤ c5 ∧ Sl ar Γ A5 x.token)
abbrev aH.cs (A4 : Option Addr) (c4 : Nat) (A5 : Option Addr) (c5 : Nat) (x : aH) : List Value := [.int .i64 x.op, .int .i64 x.err, .int .i64 x.dot.s, .int .i64 x.dot.n, .slice A4 x.vers.length c4, .slice A5 x.token.length c5]
theorem aH.fits_mono {Γ Δ : Gh} {A4 : Option Addr} {c4 : Nat} {A5 : Option Addr} {c5 : Nat} {x : aH} (h : aH.fits Γ A4 c4 A5 c5 x) (hs : Γ.le Δ) : aH.fits Δ A4 c4 A5 c5 x := by
 obtain ⟨h0, h1, h2, h3, h4, h5⟩ := h
 exact ⟨h0, h1, h2, h3, ⟨h4.1, h4.2.mono hs⟩, ⟨h5.1, h5.2.mono hs⟩⟩
def jL : Ty aH where
 n := 6
 pos := by decide
 rd := fun Γ cs x => ∃ A4 c4 A5 c5, cs = aH.cs A4 c4 A5 c5 x ∧ aH.fits Γ A4 c4 A5 c5 x
 len := by rintro Γ cs x ⟨A4, c4, A5, c5, rfl, h⟩; rfl
 one := by rintro Γ cs x ⟨A4, c4, A5, c5, rfl, h⟩ u hu; simp only [aH.cs, List.mem_cons, List.not_mem_nil, or_false] at hu; rcases hu with rfl | rfl | rfl | rfl | rfl | rfl <;> rfl
 mono := by rintro Γ Δ cs x ⟨A4, c4, A5, c5, rfl, h⟩ hs; exact ⟨A4, c4, A5, c5, rfl, aH.fits_mono h hs⟩
structure aD where
 self : Int
 sites : Int
 links : (List Int)
 cap : Int
 base : Int
 members : (List Int)
 deriving Inhabited, DecidableEq
def aD.bk (v : aD) : Nat := 1 + ax v.self + ax v.sites + (bkL ax) v.links + ax v.cap + ax v.base + (bkL ax) v.members
abbrev aD.fits (Γ : Gh) (A2 : Option Addr) (c2 : Nat) (A5 : Option Addr) (c5 : Nat) (x : aD) : Prop := I64 x.self ∧ I64 x.sites ∧ (x.links.length ≤ c2 ∧ Sl intT Γ A2 x.links) ∧ I64 x.cap ∧ I64 x.base ∧ (x.members.length ≤ c5 ∧ Sl intT Γ A5 x.members)
abbrev aD.cs (A2 : Option Addr) (c2 : Nat) (A5 : Option Addr) (c5 : Nat) (x : aD) : List Value := [.int .i64 x.self, .int .i64 x.sites, .slice A2 x.links.length c2, .int .i64 x.cap, .int .i64 x.base, .slice A5 x.members.length c5]
theorem aD.fits_mono {Γ Δ : Gh} {A2 : Option Addr} {c2 : Nat} {A5 : Option Addr} {c5 : Nat} {x : aD} (h : aD.fits Γ A2 c2 A5 c5 x) (hs : Γ.le Δ) : aD.fits Δ A2 c2 A5 c5 x := by
 obtain ⟨h0, h1, h2, h3, h4, h5⟩ := h
 exact ⟨h0, h1, ⟨h2.1, h2.2.mono hs⟩, h3, h4, ⟨h5.1, h5.2.mono hs⟩⟩
structure dE where
 op : Int
 key : ByteArray
 val : ByteArray
 gone : Bool
 past : (List Span)
 age : Int
 deriving Inhabited, DecidableEq
def dE.bk (v : dE) : Nat := 1 + ax v.op + kY v.key + kY v.val + ax v.gone + (bkL Span.bk) v.past + ax v.age
abbrev dE.fits (Γ : Gh) (A4 : Option Addr) (c4 : Nat) (x : dE) : Prop := I64 x.op ∧ x.key.size ≤ lim ∧ x.val.size ≤ lim ∧ (x.past.length ≤ c4 ∧ Sl aW Γ A4 x.past) ∧ I64 x.age
abbrev dE.cs (A4 : Option Addr) (c4 : Nat) (x : dE) : List Value := [.int .i64 x.op, .string x.key, .string x.val, .bool x.gone, .slice A4 x.past.length c4, .int .i64 x.age]
theorem dE.fits_mono {Γ Δ : Gh} {A4 : Option Addr} {c4 : Nat} {x : dE} (h : dE.fits Γ A4 c4 x) (hs : Γ.le Δ) : dE.fits Δ A4 c4 x := by
 obtain ⟨h0, h1, h2, h3, h4⟩ := h
 exact ⟨h0, h1, h2, ⟨h3.1, h3.2.mono hs⟩, h4⟩
structure br where
 seq : Int
 rec_ : Rec
 route : (List Int)
 deriving Inhabited, DecidableEq
def br.bk (v : br) : Nat := 1 + ax v.seq + Rec.bk v.rec_ + (bkL ax) v.route
abbrev br.fits (Γ : Gh) (A2 : Option Addr) (c2 : Nat) (A3 : Option Addr) (c3 : Nat) (x : br) : Prop := I64 x.seq ∧ x.rec_.key.size ≤ lim ∧ (x.rec_.vers.length ≤ c2 ∧ Sl verT Γ A2 x.rec_.vers) ∧ (x.route.length ≤ c3 ∧ Sl intT Γ A3 x.route)
abbrev br.cs (A2 : Option Addr) (c2 : Nat) (A3 : Option Addr) (c3 : Nat) (x : br) : List Value := [.int .i64 x.seq, .string x.rec_.key, .slice A2 x.rec_.vers.length c2, .slice A3 x.route.length c3]
theorem br.fits_mono {Γ Δ : Gh} {A2 : Option Addr} {c2 : Nat} {A3 : Option Addr} {c3 : Nat} {x : br} (h : br.fits Γ A2 c2 A3 c3 x) (hs : Γ.le Δ) : br.fits Δ A2 c2 A3 c3 x := by
 obtain ⟨h0, h1, h2, h3⟩ := h
 exact ⟨h0, h1, ⟨h2.1, h2.2.mono hs⟩, ⟨h3.1, h3.2.mono hs⟩⟩
structure b6 where
 from_ : Int
 seq : Int
 rec_ : Rec
 route : (List Int)
 deriving Inhabited, DecidableEq
def b6.bk (v : b6) : Nat := 1 + ax v.from_ + ax v.seq + Rec.bk v.rec_ + (bkL ax) v.route
abbrev b6.fits (Γ : Gh) (A3 : Option Addr) (c3 : Nat) (A4 : Option Addr) (c4 : Nat) (x : b6) : Prop := I64 x.from_ ∧ I64 x.seq ∧ x.rec_.key.size ≤ lim ∧ (x.rec_.vers.length ≤ c3 ∧ Sl verT Γ A3 x.rec_.vers) ∧ (x.route.length ≤ c4 ∧ Sl intT Γ A4 x.route)
abbrev b6.cs (A3 : Option Addr) (c3 : Nat) (A4 : Option Addr) (c4 : Nat) (x : b6) : List Value := [.int .i64 x.from_, .int .i64 x.seq, .string x.rec_.key, .slice A3 x.rec_.vers.length c3, .slice A4 x.route.length c4]
theorem b6.fits_mono {Γ Δ : Gh} {A3 : Option Addr} {c3 : Nat} {A4 : Option Addr} {c4 : Nat} {x : b6} (h : b6.fits Γ A3 c3 A4 c4 x) (hs : Γ.le Δ) : b6.fits Δ A3 c3 A4 c4 x := by
 obtain ⟨h0, h1, h2, h3, h4⟩ := h
 exact ⟨h0, h1, h2, ⟨h3.1, h3.2.mono hs⟩, ⟨h4.1, h4.2.mono hs⟩⟩
def ne : Ty b6 where
 n := 5
 pos := by decide
 rd := fun Γ cs x => ∃ A3 c3 A4 c4, cs = b6.cs A3 c3 A4 c4 x ∧ b6.fits Γ A3 c3 A4 c4 x
 len := by rintro Γ cs x ⟨A3, c3, A4, c4, rfl, h⟩; rfl
 one := by rintro Γ cs x ⟨A3, c3, A4, c4, rfl, h⟩ u hu; simp only [b6.cs, List.mem_cons, List.not_mem_nil, or_false] at hu; rcases hu with rfl | rfl | rfl | rfl | rfl <;> rfl
 mono := by rintro Γ Δ cs x ⟨A3, c3, A4, c4, rfl, h⟩ hs; exact ⟨A3, c3, A4, c4, rfl, b6.fits_mono h hs⟩
structure bY where
 room : Int
 list : (List b6)
 deriving Inhabited, DecidableEq
def bY.bk (v : bY) : Nat := 1 + ax v.room + (bkL b6.bk) v.list
abbrev bY.fits (Γ : Gh) (A1 : Option Addr) (c1 : Nat) (x : bY) : Prop := I64 x.room ∧ (x.list.length ≤ c1 ∧ Sl ne Γ A1 x.list)
abbrev bY.cs (A1 : Option Addr) (c1 : Nat) (x : bY) : List Value := [.int .i64 x.room, .slice A1 x.list.length c1]
theorem bY.fits_mono {Γ Δ : Gh} {A1 : Option Addr} {c1 : Nat} {x : bY} (h : bY.fits Γ A1 c1 x) (hs : Γ.le Δ) : bY.fits Δ A1 c1 x := by
 obtain ⟨h0, h1⟩ := h
 exact ⟨h0, ⟨h1.1, h1.2.mono hs⟩⟩
structure bR where
 site : Int
 id : Int
 deriving Inhabited, DecidableEq
def bR.bk (v : bR) : Nat := 1 + ax v.site + ax v.id
abbrev bR.fits (Γ : Gh)  (x : bR) : Prop := I64 x.site ∧ I64 x.id
abbrev bR.cs  (x : bR) : List Value := [.int .i64 x.site, .int .i64 x.id]
theorem bR.fits_mono {Γ Δ : Gh}  {x : bR} (h : bR.fits Γ  x) (hs : Γ.le Δ) : bR.fits Δ  x := by
 exact h
structure cB where
 op : Int
 members : (List Int)
 node : Int
 life : Int
 deriving Inhabited, DecidableEq
def cB.bk (v : cB) : Nat := 1 + ax v.op + (bkL ax) v.members + ax v.node + ax v.life
abbrev cB.fits (Γ : Gh) (A1 : Option Addr) (c1 : Nat) (x : cB) : Prop := I64 x.op ∧ (x.members.length ≤ c1 ∧ Sl intT Γ A1 x.members) ∧ I64 x.node ∧ I64 x.life
abbrev cB.cs (A1 : Option Addr) (c1 : Nat) (x : cB) : List Value := [.int .i64 x.op, .slice A1 x.members.length c1, .int .i64 x.node, .int .i64 x.life]
theorem cB.fits_mono {Γ Δ : Gh} {A1 : Option Addr} {c1 : Nat} {x : cB} (h : cB.fits Γ A1 c1 x) (hs : Γ.le Δ) : cB.fits Δ A1 c1 x := by
 obtain ⟨h0, h1, h2, h3⟩ := h
 exact ⟨h0, ⟨h1.1, h1.2.mono hs⟩, h2, h3⟩
structure aZ where
 b : (List UInt8)
 at_ : Int
 bad : Bool
 deriving Inhabited, DecidableEq
def aZ.bk (v : aZ) : Nat := 1 + (bkL ax) v.b + ax v.at_ + ax v.bad
abbrev aZ.fits (Γ : Gh) (A0 : Option Addr) (c0 : Nat) (x : aZ) : Prop := (x.b.length ≤ c0 ∧ Sl ar Γ A0 x.b) ∧ I64 x.at_
abbrev aZ.cs (A0 : Option Addr) (c0 : Nat) (x : aZ) : List Value := [.slice A0 x.b.length c0, .int .i64 x.at_, .bool x.bad]
theorem aZ.fits_mono {Γ Δ : Gh} {A0 : Option Addr} {c0 : Nat} {x : aZ} (h : aZ.fits Γ A0 c0 x) (hs : Γ.le Δ) : aZ.fits Δ A0 c0 x := by
 obtain ⟨h0, h1⟩ := h
 exact ⟨⟨h0.1, h0.2.mono hs⟩, h1⟩
structure aS where
 entry : br
 want : Nat
 deriving Inhabited, DecidableEq
def aS.bk (v : aS) : Nat := 1 + br.bk v.entry + ax v.want
abbrev aS.fits (Γ : Gh) (A2 : Option Addr) (c2 : Nat) (A3 : Option Addr) (c3 : Nat) (x : aS) : Prop := I64 x.entry.seq ∧ x.entry.rec_.key.size ≤ lim ∧ (x.entry.rec_.vers.length ≤ c2 ∧ Sl verT Γ A2 x.entry.rec_.vers) ∧ (x.entry.route.length ≤ c3 ∧ Sl intT Γ A3 x.entry.route)
abbrev aS.cs (A2 : Option Addr) (c2 : Nat) (A3 : Option Addr) (c3 : Nat) (x : aS) : List Value := [.int .i64 x.entry.seq, .string x.entry.rec_.key, .slice A2 x.entry.rec_.vers.length c2, .slice A3 x.entry.route.length c3, .map (some x.want)]
theorem aS.fits_mono {Γ Δ : Gh} {A2 : Option Addr} {c2 : Nat} {A3 : Option Addr} {c3 : Nat} {x : aS} (h : aS.fits Γ A2 c2 A3 c3 x) (hs : Γ.le Δ) : aS.fits Δ A2 c2 A3 c3 x := by
 obtain ⟨h0, h1, h2, h3⟩ := h
 exact ⟨h0, h1, ⟨h2.1, h2.2.mono hs⟩, ⟨h3.1, h3.2.mono hs⟩⟩
def il : Ty aS where
 n := 5
 pos := by decide
 rd := fun Γ cs x => ∃ A2 c2 A3 c3, cs = aS.cs A2 c2 A3 c3 x ∧ aS.fits Γ A2 c2 A3 c3 x
 len := by rintro Γ cs x ⟨A2, c2, A3, c3, rfl, h⟩; rfl
 one := by rintro Γ cs x ⟨A2, c2, A3, c3, rfl, h⟩ u hu; simp only [aS.cs, List.mem_cons, List.not_mem_nil, or_false] at hu; rcases hu with rfl | rfl | rfl | rfl | rfl <;> rfl
 mono := by rintro Γ Δ cs x ⟨A2, c2, A3, c3, rfl, h⟩ hs; exact ⟨A2, c2, A3, c3, rfl, aS.fits_mono h hs⟩
structure bI where
 b : (List UInt8)
 at_ : Int
 bad : Bool
 deriving Inhabited, DecidableEq
def bI.bk (v : bI) : Nat := 1 + (bkL ax) v.b + ax v.at_ + ax v.bad
abbrev bI.fits (Γ : Gh) (A0 : Option Addr) (c0 : Nat) (x : bI) : Prop := (x.b.length ≤ c0 ∧ Sl ar Γ A0 x.b) ∧ I64 x.at_
abbrev bI.cs (A0 : Option Addr) (c0 : Nat) (x : bI) : List Value := [.slice A0 x.b.length c0, .int .i64 x.at_, .bool x.bad]
theorem bI.fits_mono {Γ Δ : Gh} {A0 : Option Addr} {c0 : Nat} {x : bI} (h : bI.fits Γ A0 c0 x) (hs : Γ.le Δ) : bI.fits Δ A0 c0 x := by
 obtain ⟨h0, h1⟩ := h
 exact ⟨⟨h0.1, h0.2.mono hs⟩, h1⟩
structure cc where
 r : Rec
 deriving Inhabited, DecidableEq
def cc.bk (v : cc) : Nat := 1 + Rec.bk v.r
abbrev cc.fits (Γ : Gh) (A1 : Option Addr) (c1 : Nat) (x : cc) : Prop := x.r.key.size ≤ lim ∧ (x.r.vers.length ≤ c1 ∧ Sl verT Γ A1 x.r.vers)
abbrev cc.cs (A1 : Option Addr) (c1 : Nat) (x : cc) : List Value := [.string x.r.key, .slice A1 x.r.vers.length c1]
theorem cc.fits_mono {Γ Δ : Gh} {A1 : Option Addr} {c1 : Nat} {x : cc} (h : cc.fits Γ A1 c1 x) (hs : Γ.le Δ) : cc.fits Δ A1 c1 x := by
 obtain ⟨h0, h1⟩ := h
 exact ⟨h0, ⟨h1.1, h1.2.mono hs⟩⟩
structure d4 where
 route : (List Int)
 r : Rec
 deriving Inhabited, DecidableEq
def d4.bk (v : d4) : Nat := 1 + (bkL ax) v.route + Rec.bk v.r
abbrev d4.fits (Γ : Gh) (A0 : Option Addr) (c0 : Nat) (A2 : Option Addr) (c2 : Nat) (x : d4) : Prop := (x.route.length ≤ c0 ∧ Sl intT Γ A0 x.route) ∧ x.r.key.size ≤ lim ∧ (x.r.vers.length ≤ c2 ∧ Sl verT Γ A2 x.r.vers)
abbrev d4.cs (A0 : Option Addr) (c0 : Nat) (A2 : Option Addr) (c2 : Nat) (x : d4) : List Value := [.slice A0 x.route.length c0, .string x.r.key, .slice A2 x.r.vers.length c2]
theorem d4.fits_mono {Γ Δ : Gh} {A0 : Option Addr} {c0 : Nat} {A2 : Option Addr} {c2 : Nat} {x : d4} (h : d4.fits Γ A0 c0 A2 c2 x) (hs : Γ.le Δ) : d4.fits Δ A0 c0 A2 c2 x := by
 obtain ⟨h0, h1, h2⟩ := h
 exact ⟨⟨h0.1, h0.2.mono hs⟩, h1, ⟨h2.1, h2.2.mono hs⟩⟩
structure cA where
 vec : (List Int)
 deriving Inhabited, DecidableEq
def cA.bk (v : cA) : Nat := 1 + (bkL ax) v.vec
abbrev cA.fits (Γ : Gh) (A0 : Option Addr) (c0 : Nat) (x : cA) : Prop := (x.vec.length ≤ c0 ∧ Sl intT Γ A0 x.vec)
abbrev cA.cs (A0 : Option Addr) (c0 : Nat) (x : cA) : List Value := [.slice A0 x.vec.length c0]
theorem cA.fits_mono {Γ Δ : Gh} {A0 : Option Addr} {c0 : Nat} {x : cA} (h : cA.fits Γ A0 c0 x) (hs : Γ.le Δ) : cA.fits Δ A0 c0 x := by
 have h0 := h
 exact ⟨h0.1, h0.2.mono hs⟩
structure bV where
 sink : Int
 seq : Int
 deriving Inhabited, DecidableEq
def bV.bk (v : bV) : Nat := 1 + ax v.sink + ax v.seq
abbrev bV.fits (Γ : Gh)  (x : bV) : Prop := I64 x.sink ∧ I64 x.seq
abbrev bV.cs  (x : bV) : List Value := [.int .i64 x.sink, .int .i64 x.seq]
theorem bV.fits_mono {Γ Δ : Gh}  {x : bV} (h : bV.fits Γ  x) (hs : Γ.le Δ) : bV.fits Δ  x := by
 exact h
structure bl where
 sink : Int
 deriving Inhabited, DecidableEq
def bl.bk (v : bl) : Nat := 1 + ax v.sink
abbrev bl.fits (Γ : Gh)  (x : bl) : Prop := I64 x.sink
abbrev bl.cs  (x : bl) : List Value := [.int .i64 x.sink]
theorem bl.fits_mono {Γ Δ : Gh}  {x : bl} (h : bl.fits Γ  x) (hs : Γ.le Δ) : bl.fits Δ  x := by
 exact h
structure ca where
 list : (List Int)
 deriving Inhabited, DecidableEq
def ca.bk (v : ca) : Nat := 1 + (bkL ax) v.list
abbrev ca.fits (Γ : Gh) (A0 : Option Addr) (c0 : Nat) (x : ca) : Prop := (x.list.length ≤ c0 ∧ Sl intT Γ A0 x.list)
abbrev ca.cs (A0 : Option Addr) (c0 : Nat) (x : ca) : List Value := [.slice A0 x.list.length c0]
theorem ca.fits_mono {Γ Δ : Gh} {A0 : Option Addr} {c0 : Nat} {x : ca} (h : ca.fits Γ A0 c0 x) (hs : Γ.le Δ) : ca.fits Δ A0 c0 x := by
 have h0 := h
 exact ⟨h0.1, h0.2.mono hs⟩
structure bp where
 seq : Int
 deriving Inhabited, DecidableEq
def bp.bk (v : bp) : Nat := 1 + ax v.seq
abbrev bp.fits (Γ : Gh)  (x : bp) : Prop := I64 x.seq
abbrev bp.cs  (x : bp) : List Value := [.int .i64 x.seq]
theorem bp.fits_mono {Γ Δ : Gh}  {x : bp} (h : bp.fits Γ  x) (hs : Γ.le Δ) : bp.fits Δ  x := by
 exact h
structure d7 where
 seq : Int
 sinks : (List Int)
 path : (List Int)
 r : Rec
 deriving Inhabited, DecidableEq
def d7.bk (v : d7) : Nat := 1 + ax v.seq + (bkL ax) v.sinks + (bkL ax) v.path + Rec.bk v.r
abbrev d7.fits (Γ : Gh) (A1 : Option Addr) (c1 : Nat) (A2 : Option Addr) (c2 : Nat) (A4 : Option Addr) (c4 : Nat) (x : d7) : Prop := I64 x.seq ∧ (x.sinks.length ≤ c1 ∧ Sl intT Γ A1 x.sinks) ∧ (x.path.length ≤ c2 ∧ Sl intT Γ A2 x.path) ∧ x.r.key.size ≤ lim ∧ (x.r.vers.length ≤ c4 ∧ Sl verT Γ A4 x.r.vers)
abbrev d7.cs (A1 : Option Addr) (c1 : Nat) (A2 : Option Addr) (c2 : Nat) (A4 : Option Addr) (c4 : Nat) (x : d7) : List Value := [.int .i64 x.seq, .slice A1 x.sinks.length c1, .slice A2 x.path.length c2, .string x.r.key, .slice A4 x.r.vers.length c4]
theorem d7.fits_mono {Γ Δ : Gh} {A1 : Option Addr} {c1 : Nat} {A2 : Option Addr} {c2 : Nat} {A4 : Option Addr} {c4 : Nat} {x : d7} (h : d7.fits Γ A1 c1 A2 c2 A4 c4 x) (hs : Γ.le Δ) : d7.fits Δ A1 c1 A2 c2 A4 c4 x := by
 obtain ⟨h0, h1, h2, h3, h4⟩ := h
 exact ⟨h0, ⟨h1.1, h1.2.mono hs⟩, ⟨h2.1, h2.2.mono hs⟩, h3, ⟨h4.1, h4.2.mono hs⟩⟩
structure bS where
 sink : Int
 deriving Inhabited, DecidableEq
def bS.bk (v : bS) : Nat := 1 + ax v.sink
abbrev bS.fits (Γ : Gh)  (x : bS) : Prop := I64 x.sink
abbrev bS.cs  (x : bS) : List Value := [.int .i64 x.sink]
theorem bS.fits_mono {Γ Δ : Gh}  {x : bS} (h : bS.fits Γ  x) (hs : Γ.le Δ) : bS.fits Δ  x := by
 exact h
structure d6 where
 part : Int
 old : (List Int)
 new : (List Int)
 deriving Inhabited, DecidableEq
def d6.bk (v : d6) : Nat := 1 + ax v.part + (bkL ax) v.old + (bkL ax) v.new
abbrev d6.fits (Γ : Gh) (A1 : Option Addr) (c1 : Nat) (A2 : Option Addr) (c2 : Nat) (x : d6) : Prop := I64 x.part ∧ (x.old.length ≤ c1 ∧ Sl intT Γ A1 x.old) ∧ (x.new.length ≤ c2 ∧ Sl intT Γ A2 x.new)
abbrev d6.cs (A1 : Option Addr) (c1 : Nat) (A2 : Option Addr) (c2 : Nat) (x : d6) : List Value := [.int .i64 x.part, .slice A1 x.old.length c1, .slice A2 x.new.length c2]
theorem d6.fits_mono {Γ Δ : Gh} {A1 : Option Addr} {c1 : Nat} {A2 : Option Addr} {c2 : Nat} {x : d6} (h : d6.fits Γ A1 c1 A2 c2 x) (hs : Γ.le Δ) : d6.fits Δ A1 c1 A2 c2 x := by
 obtain ⟨h0, h1, h2⟩ := h
 exact ⟨h0, ⟨h1.1, h1.2.mono hs⟩, ⟨h2.1, h2.2.mono hs⟩⟩
structure cF where
 a0 : Int
 a1 : Int
 deriving Inhabited, DecidableEq
def cF.bk (v : cF) : Nat := 1 + ax v.a0 + ax v.a1
abbrev cF.fits (Γ : Gh)  (x : cF) : Prop := I64 x.a0 ∧ I64 x.a1
abbrev cF.cs  (x : cF) : List Value := [.int .i64 x.a0, .int .i64 x.a1]
theorem cF.fits_mono {Γ Δ : Gh}  {x : cF} (h : cF.fits Γ  x) (hs : Γ.le Δ) : cF.fits Δ  x := by
 exact h
structure cE where
 a0 : Int
 a1 : Int
 a2 : Int
 deriving Inhabited, DecidableEq
def cE.bk (v : cE) : Nat := 1 + ax v.a0 + ax v.a1 + ax v.a2
abbrev cE.fits (Γ : Gh)  (x : cE) : Prop := I64 x.a0 ∧ I64 x.a1 ∧ I64 x.a2
abbrev cE.cs  (x : cE) : List Value := [.int .i64 x.a0, .int .i64 x.a1, .int .i64 x.a2]
theorem cE.fits_mono {Γ Δ : Gh}  {x : cE} (h : cE.fits Γ  x) (hs : Γ.le Δ) : cE.fits Δ  x := by
 exact h
structure ce where
 b : (List UInt8)
 deriving Inhabited, DecidableEq
def ce.bk (v : ce) : Nat := 1 + (bkL ax) v.b
abbrev ce.fits (Γ : Gh) (A0 : Option Addr) (c0 : Nat) (x : ce) : Prop := (x.b.length ≤ c0 ∧ Sl ar Γ A0 x.b)
abbrev ce.cs (A0 : Option Addr) (c0 : Nat) (x : ce) : List Value := [.slice A0 x.b.length c0]
theorem ce.fits_mono {Γ Δ : Gh} {A0 : Option Addr} {c0 : Nat} {x : ce} (h : ce.fits Γ A0 c0 x) (hs : Γ.le Δ) : ce.fits Δ A0 c0 x := by
 have h0 := h
 exact ⟨h0.1, h0.2.mono hs⟩
inductive aj where
 | disk_Disk_Cut_1 (a0 : ByteArray) (a1 : Int)
 | disk_Disk_Remove_1 (a0 : ByteArray)
 | disk_add_1 (a0 : ByteArray) (a1 : (List UInt8))
 deriving Inhabited, DecidableEq
def aj.fid : aj → FuncId
 | .disk_Disk_Cut_1 _ _ => 310
 | .disk_Disk_Remove_1 _ => 316
 | .disk_add_1 _ _ => 400
def aj.caps : aj → Option Addr → Nat → Array Value
 | .disk_Disk_Cut_1 _ _, A, c => #[.pointer (some ⟨c, 0, none⟩), .pointer A]
 | .disk_Disk_Remove_1 _, A, c => #[.pointer (some ⟨c, 0, none⟩)]
 | .disk_add_1 _ _, A, c => #[.pointer (some ⟨c, 0, none⟩), .pointer A]
def aj.val (x : aj) (A : Option Addr) (c : Nat) : Value := .func (.func (aj.fid x)) #[] (aj.caps x A c)
theorem aj.val_one (x : aj) (A : Option Addr) (c : Nat) : (aj.val x A c).oneCell' = true := rfl
def aj.ok (Γ : Gh) (A : Option Addr) (c : Nat) : aj → Prop
 | .disk_Disk_Cut_1 a0 a1 => (Γ c = some (.cells #[.string a0] 9 (0, 0)) ∧ a0.size ≤ lim) ∧ (∃ (g1 : Nat), A = some ⟨g1, 0, none⟩ ∧ Γ g1 = some (.cells #[.int .i64 a1] 3 (0, 0)) ∧ I64 a1) ∧ True
 | .disk_Disk_Remove_1 a0 => (Γ c = some (.cells #[.string a0] 9 (0, 0)) ∧ a0.size ≤ lim) ∧ True
 | .disk_add_1 a0 a1 => (Γ c = some (.cells #[.string a0] 9 (0, 0)) ∧ a0.size ≤ lim) ∧ (∃ (g1 : Nat) (A1_0 : Option Addr) (c1_0 : Nat), A = some ⟨g1, 0, none⟩ ∧ Γ g1 = some (.cells #[.slice A1_0 a1.length c1_0] 61 (0, 0)) ∧ a1.length ≤ c1_0 ∧ Sl ar Γ A1_0 a1) ∧ True
theorem aj.ok.mono {Γ Δ : Gh} {A : Option Addr} {c : Nat} : ∀ {x : aj}, aj.ok Γ A c x → Γ.le Δ → aj.ok Δ A c x := by
 intro x h hs; revert h; exact match x with
 | .disk_Disk_Cut_1 _ _ => fun ⟨⟨h0_0, h0_1⟩, ⟨g1, h1_0, h1_1, h1_2⟩, _⟩ => ⟨⟨hs _ _ h0_0, h0_1⟩, ⟨g1, h1_0, hs _ _ h1_1, h1_2⟩, trivial⟩
 | .disk_Disk_Remove_1 _ => fun ⟨⟨h0_0, h0_1⟩, _⟩ => ⟨⟨hs _ _ h0_0, h0_1⟩, trivial⟩
 | .disk_add_1 _ _ => fun ⟨⟨h0_0, h0_1⟩, ⟨g1, A1_0, c1_0, h1_0, h1_1, h1_2, h1_3⟩, _⟩ => ⟨⟨hs _ _ h0_0, h0_1⟩, ⟨g1, A1_0, c1_0, h1_0, hs _ _ h1_1, h1_2, h1_3.mono hs⟩, trivial⟩
structure aE where
 do_ : aj
 name : ByteArray
 tail : (List UInt8)
 deriving Inhabited, DecidableEq
def aE.bk (v : aE) : Nat := 1 + ax v.do_ + kY v.name + (bkL ax) v.tail
abbrev aE.fits (Γ : Gh) (A0 : Option Addr) (c0 : Nat) (A2 : Option Addr) (c2 : Nat) (x : aE) : Prop := aj.ok Γ A0 c0 x.do_ ∧ x.name.size ≤ lim ∧ (x.tail.length ≤ c2 ∧ Sl ar Γ A2 x.tail)
abbrev aE.cs (A0 : Option Addr) (c0 : Nat) (A2 : Option Addr) (c2 : Nat) (x : aE) : List Value := [aj.val x.do_ A0 c0, .string x.name, .slice A2 x.tail.length c2]
theorem aE.fits_mono {Γ Δ : Gh} {A0 : Option Addr} {c0 : Nat} {A2 : Option Addr} {c2 : Nat} {x : aE} (h : aE.fits Γ A0 c0 A2 c2 x) (hs : Γ.le Δ) : aE.fits Δ A0 c0 A2 c2 x := by
 obtain ⟨h0, h1, h2⟩ := h
 exact ⟨aj.ok.mono h0 hs, h1, ⟨h2.1, h2.2.mono hs⟩⟩
def fG : Ty aE where
 n := 3
 pos := by decide
 rd := fun Γ cs x => ∃ A0 c0 A2 c2, cs = aE.cs A0 c0 A2 c2 x ∧ aE.fits Γ A0 c0 A2 c2 x
 len := by rintro Γ cs x ⟨A0, c0, A2, c2, rfl, h⟩; rfl
 one := by rintro Γ cs x ⟨A0, c0, A2, c2, rfl, h⟩ u hu; simp only [aE.cs, List.mem_cons, List.not_mem_nil, or_false] at hu; rcases hu with rfl | rfl | rfl <;> first | rfl | exact aj.val_one _ _ _
 mono := by rintro Γ Δ cs x ⟨A0, c0, A2, c2, rfl, h⟩ hs; exact ⟨A0, c0, A2, c2, rfl, aE.fits_mono h hs⟩
structure bZ where
 b : (List UInt8)
 at_ : Int
 deriving Inhabited, DecidableEq
def bZ.bk (v : bZ) : Nat := 1 + (bkL ax) v.b + ax v.at_
abbrev bZ.fits (Γ : Gh) (A0 : Option Addr) (c0 : Nat) (x : bZ) : Prop := (x.b.length ≤ c0 ∧ Sl ar Γ A0 x.b) ∧ I64 x.at_
abbrev bZ.cs (A0 : Option Addr) (c0 : Nat) (x : bZ) : List Value := [.slice A0 x.b.length c0, .int .i64 x.at_]
theorem bZ.fits_mono {Γ Δ : Gh} {A0 : Option Addr} {c0 : Nat} {x : bZ} (h : bZ.fits Γ A0 c0 x) (hs : Γ.le Δ) : bZ.fits Δ A0 c0 x := by
 obtain ⟨h0, h1⟩ := h
 exact ⟨⟨h0.1, h0.2.mono hs⟩, h1⟩
structure bF where
 at_ : Int
 node : Int
 deriving Inhabited, DecidableEq
def bF.bk (v : bF) : Nat := 1 + ax v.at_ + ax v.node
abbrev bF.fits (Γ : Gh)  (x : bF) : Prop := U64 x.at_ ∧ I64 x.node
abbrev bF.cs  (x : bF) : List Value := [.int .u64 x.at_, .int .i64 x.node]
theorem bF.fits_mono {Γ Δ : Gh}  {x : bF} (h : bF.fits Γ  x) (hs : Γ.le Δ) : bF.fits Δ  x := by
 exact h
end Fw
end Go.Proofs.YtogmioecalmalaaGreat
