/- The data types of the program, as Lean structures, and what they are in memory. No condition. -/
import Derived.Test.YtiakfgdgafljnaaGreatK10
namespace Go.Proofs.YtiakfgdgafljnaaGreat
namespace Fw
set_option linter.unusedVariables false
set_option linter.unusedSimpArgs false
set_option linter.unusedSectionVars false
open Go.RowKit
structure Druntime_boundsError where
  x_:Int
  y:Int
  signed:Bool
  code:UInt8
  deriving Inhabited,DecidableEq
def Druntime_boundsError.bk(v:Druntime_boundsError):Nat:=1+bkOne v.x_+bkOne v.y+bkOne v.signed+bkOne v.code
abbrev Druntime_boundsError.fits(Γ:Gh)(x:Druntime_boundsError):Prop:=I64 x.x_∧I64 x.y
abbrev Druntime_boundsError.cs(x:Druntime_boundsError):List Value:=[.int .i64 x.x_,.int .i64 x.y,.bool x.signed,.int .u8 ((x.code.toNat:Nat):Int)]
theorem Druntime_boundsError.fits_mono{Γ Δ:Gh}{x:Druntime_boundsError}(h:Druntime_boundsError.fits Γ  x)(hs:Γ.le Δ):Druntime_boundsError.fits Δ  x:=by
  exact h
def druntime_boundsErrorT:Ty Druntime_boundsError where
  n:=4
  pos:=by decide
  rd:=λΓ cs x=>cs=Druntime_boundsError.cs  x∧Druntime_boundsError.fits Γ  x
  len:=by rintro Γ cs x ⟨rfl,h⟩; rfl
  one:=by rintro Γ cs x ⟨rfl,h⟩ u hu; simp only [Druntime_boundsError.cs,List.mem_cons,List.not_mem_nil,or_false] at hu; rcases hu with rfl | rfl | rfl | rfl <;> rfl
  mono:=by rintro Γ Δ cs x ⟨rfl,h⟩ hs; exact⟨rfl,Druntime_boundsError.fits_mono h hs⟩
theorem Sl.druntime_boundsErrorT_at{Γ:Gh}{A:Option Addr}{xs:List Druntime_boundsError}{i:Nat}(h:Sl druntime_boundsErrorT Γ A xs)(hi:i<xs.length):Druntime_boundsError.fits Γ (gt xs i)∧Cells Γ A (i*4) (Druntime_boundsError.cs (gt xs i)):=by
  obtain⟨cs,⟨rfl,h1⟩,h2⟩:=h.get i hi
  exact⟨h1,h2⟩
theorem Own.druntime_boundsErrorT_at{Γ:Gh}{A:Option Addr}{xs:List Druntime_boundsError}{e c:Nat}{row:Rowb}{i:Nat}(h:Own druntime_boundsErrorT Γ e row A c xs)(hi:i<xs.length):Druntime_boundsError.fits Γ (gt xs i)∧OCells row A (i*4) (Druntime_boundsError.cs (gt xs i)):=by
  obtain⟨cs,⟨rfl,h1⟩,h2⟩:=h.get hi
  exact⟨h1,h2⟩
structure Druntime_errorAddressString where
  msg:ByteArray
  addr:Int
  deriving Inhabited,DecidableEq
def Druntime_errorAddressString.bk(v:Druntime_errorAddressString):Nat:=1+bkStr v.msg+bkOne v.addr
abbrev Druntime_errorAddressString.fits(Γ:Gh)(x:Druntime_errorAddressString):Prop:=x.msg.size≤lim∧U64 x.addr
abbrev Druntime_errorAddressString.cs(x:Druntime_errorAddressString):List Value:=[.string x.msg,.int .u64 x.addr]
theorem Druntime_errorAddressString.fits_mono{Γ Δ:Gh}{x:Druntime_errorAddressString}(h:Druntime_errorAddressString.fits Γ  x)(hs:Γ.le Δ):Druntime_errorAddressString.fits Δ  x:=by
  exact h
def druntime_errorAddressStringT:Ty Druntime_errorAddressString where
  n:=2
  pos:=by decide
  rd:=λΓ cs x=>cs=Druntime_errorAddressString.cs  x∧Druntime_errorAddressString.fits Γ  x
  len:=by rintro Γ cs x ⟨rfl,h⟩; rfl
  one:=by rintro Γ cs x ⟨rfl,h⟩ u hu; simp only [Druntime_errorAddressString.cs,List.mem_cons,List.not_mem_nil,or_false] at hu; rcases hu with rfl | rfl <;> rfl
  mono:=by rintro Γ Δ cs x ⟨rfl,h⟩ hs; exact⟨rfl,Druntime_errorAddressString.fits_mono h hs⟩
theorem Sl.druntime_errorAddressStringT_at{Γ:Gh}{A:Option Addr}{xs:List Druntime_errorAddressString}{i:Nat}(h:Sl druntime_errorAddressStringT Γ A xs)(hi:i<xs.length):Druntime_errorAddressString.fits Γ (gt xs i)∧Cells Γ A (i*2) (Druntime_errorAddressString.cs (gt xs i)):=by
  obtain⟨cs,⟨rfl,h1⟩,h2⟩:=h.get i hi
  exact⟨h1,h2⟩
theorem Own.druntime_errorAddressStringT_at{Γ:Gh}{A:Option Addr}{xs:List Druntime_errorAddressString}{e c:Nat}{row:Rowb}{i:Nat}(h:Own druntime_errorAddressStringT Γ e row A c xs)(hi:i<xs.length):Druntime_errorAddressString.fits Γ (gt xs i)∧OCells row A (i*2) (Druntime_errorAddressString.cs (gt xs i)):=by
  obtain⟨cs,⟨rfl,h1⟩,h2⟩:=h.get hi
  exact⟨h1,h2⟩
structure Dot where
  s:Int
  n:Int
  deriving Inhabited,DecidableEq
def Dot.bk(v:Dot):Nat:=1+bkOne v.s+bkOne v.n
abbrev Dot.fits(Γ:Gh)(x:Dot):Prop:=I64 x.s∧I64 x.n
abbrev Dot.cs(x:Dot):List Value:=[.int .i64 x.s,.int .i64 x.n]
theorem Dot.fits_mono{Γ Δ:Gh}{x:Dot}(h:Dot.fits Γ  x)(hs:Γ.le Δ):Dot.fits Δ  x:=by
  exact h
def dotT:Ty Dot where
  n:=2
  pos:=by decide
  rd:=λΓ cs x=>cs=Dot.cs  x∧Dot.fits Γ  x
  len:=by rintro Γ cs x ⟨rfl,h⟩; rfl
  one:=by rintro Γ cs x ⟨rfl,h⟩ u hu; simp only [Dot.cs,List.mem_cons,List.not_mem_nil,or_false] at hu; rcases hu with rfl | rfl <;> rfl
  mono:=by rintro Γ Δ cs x ⟨rfl,h⟩ hs; exact⟨rfl,Dot.fits_mono h hs⟩
theorem Sl.dotT_at{Γ:Gh}{A:Option Addr}{xs:List Dot}{i:Nat}(h:Sl dotT Γ A xs)(hi:i<xs.length):Dot.fits Γ (gt xs i)∧Cells Γ A (i*2) (Dot.cs (gt xs i)):=by
  obtain⟨cs,⟨rfl,h1⟩,h2⟩:=h.get i hi
  exact⟨h1,h2⟩
theorem Own.dotT_at{Γ:Gh}{A:Option Addr}{xs:List Dot}{e c:Nat}{row:Rowb}{i:Nat}(h:Own dotT Γ e row A c xs)(hi:i<xs.length):Dot.fits Γ (gt xs i)∧OCells row A (i*2) (Dot.cs (gt xs i)):=by
  obtain⟨cs,⟨rfl,h1⟩,h2⟩:=h.get hi
  exact⟨h1,h2⟩
structure Span where
  s:Int
  f:Int
  t:Int
  deriving Inhabited,DecidableEq
def Span.bk(v:Span):Nat:=1+bkOne v.s+bkOne v.f+bkOne v.t
abbrev Span.fits(Γ:Gh)(x:Span):Prop:=I64 x.s∧I64 x.f∧I64 x.t
abbrev Span.cs(x:Span):List Value:=[.int .i64 x.s,.int .i64 x.f,.int .i64 x.t]
theorem Span.fits_mono{Γ Δ:Gh}{x:Span}(h:Span.fits Γ  x)(hs:Γ.le Δ):Span.fits Δ  x:=by
  exact h
def spanT:Ty Span where
  n:=3
  pos:=by decide
  rd:=λΓ cs x=>cs=Span.cs  x∧Span.fits Γ  x
  len:=by rintro Γ cs x ⟨rfl,h⟩; rfl
  one:=by rintro Γ cs x ⟨rfl,h⟩ u hu; simp only [Span.cs,List.mem_cons,List.not_mem_nil,or_false] at hu; rcases hu with rfl | rfl | rfl <;> rfl
  mono:=by rintro Γ Δ cs x ⟨rfl,h⟩ hs; exact⟨rfl,Span.fits_mono h hs⟩
theorem Sl.spanT_at{Γ:Gh}{A:Option Addr}{xs:List Span}{i:Nat}(h:Sl spanT Γ A xs)(hi:i<xs.length):Span.fits Γ (gt xs i)∧Cells Γ A (i*3) (Span.cs (gt xs i)):=by
  obtain⟨cs,⟨rfl,h1⟩,h2⟩:=h.get i hi
  exact⟨h1,h2⟩
theorem Own.spanT_at{Γ:Gh}{A:Option Addr}{xs:List Span}{e c:Nat}{row:Rowb}{i:Nat}(h:Own spanT Γ e row A c xs)(hi:i<xs.length):Span.fits Γ (gt xs i)∧OCells row A (i*3) (Span.cs (gt xs i)):=by
  obtain⟨cs,⟨rfl,h1⟩,h2⟩:=h.get hi
  exact⟨h1,h2⟩
structure Ver where
  dot:Dot
  past:(List Span)
  gone:Bool
  val:ByteArray
  deriving Inhabited,DecidableEq
def Ver.bk(v:Ver):Nat:=1+Dot.bk v.dot+(bkL Span.bk) v.past+bkOne v.gone+bkStr v.val
abbrev Ver.fits(Γ:Gh)(A2:Option Addr)(c2:Nat)(x:Ver):Prop:=I64 x.dot.s∧I64 x.dot.n∧(x.past.length≤c2∧Sl spanT Γ A2 x.past)∧x.val.size≤lim
abbrev Ver.cs(A2:Option Addr)(c2:Nat)(x:Ver):List Value:=[.int .i64 x.dot.s,.int .i64 x.dot.n,.slice A2 x.past.length c2,.bool x.gone,.string x.val]
theorem Ver.fits_mono{Γ Δ:Gh}{A2:Option Addr}{c2:Nat}{x:Ver}(h:Ver.fits Γ A2 c2 x)(hs:Γ.le Δ):Ver.fits Δ A2 c2 x:=by
  obtain⟨h0,h1,h2,h3⟩:=h
  exact⟨h0,h1,⟨h2.1,h2.2.mono hs⟩,h3⟩
def verT:Ty Ver where
  n:=5
  pos:=by decide
  rd:=λΓ cs x => ∃A2 c2,cs=Ver.cs A2 c2 x∧Ver.fits Γ A2 c2 x
  len:=by rintro Γ cs x ⟨A2,c2,rfl,h⟩; rfl
  one:=by rintro Γ cs x ⟨A2,c2,rfl,h⟩ u hu; simp only [Ver.cs,List.mem_cons,List.not_mem_nil,or_false] at hu; rcases hu with rfl | rfl | rfl | rfl | rfl <;> rfl
  mono:=by rintro Γ Δ cs x ⟨A2,c2,rfl,h⟩ hs; exact⟨A2,c2,rfl,Ver.fits_mono h hs⟩
theorem Sl.verT_at{Γ:Gh}{A:Option Addr}{xs:List Ver}(h:Sl verT Γ A xs)(i:Nat):∃A2 c2,i<xs.length→Ver.fits Γ A2 c2 (gt xs i)∧Cells Γ A (i*5) (Ver.cs A2 c2 (gt xs i)):=by
  by_cases hi:i<xs.length
  · obtain⟨cs,⟨A2,c2,rfl,h⟩,h2⟩:=h.get i hi
    exact⟨A2,c2,λ_=>⟨h,h2⟩⟩
  · exact⟨none,0,λh=>absurd h hi⟩
theorem Own.verT_at{Γ:Gh}{A:Option Addr}{xs:List Ver}{e c:Nat}{row:Rowb}(h:Own verT Γ e row A c xs)(i:Nat):∃A2 c2,i<xs.length→Ver.fits Γ A2 c2 (gt xs i)∧OCells row A (i*5) (Ver.cs A2 c2 (gt xs i)):=by
  by_cases hi:i<xs.length
  · obtain⟨cs,⟨A2,c2,rfl,h⟩,h2⟩:=h.get hi
    exact⟨A2,c2,λ_=>⟨h,h2⟩⟩
  · exact⟨none,0,λh=>absurd h hi⟩
structure Rec where
  key:ByteArray
  vers:(List Ver)
  deriving Inhabited,DecidableEq
def Rec.bk(v:Rec):Nat:=1+bkStr v.key+(bkL Ver.bk) v.vers
abbrev Rec.fits(Γ:Gh)(A1:Option Addr)(c1:Nat)(x:Rec):Prop:=x.key.size≤lim∧(x.vers.length≤c1∧Sl verT Γ A1 x.vers)
abbrev Rec.cs(A1:Option Addr)(c1:Nat)(x:Rec):List Value:=[.string x.key,.slice A1 x.vers.length c1]
theorem Rec.fits_mono{Γ Δ:Gh}{A1:Option Addr}{c1:Nat}{x:Rec}(h:Rec.fits Γ A1 c1 x)(hs:Γ.le Δ):Rec.fits Δ A1 c1 x:=by
  obtain⟨h0,h1⟩:=h
  exact⟨h0,⟨h1.1,h1.2.mono hs⟩⟩
def recT:Ty Rec where
  n:=2
  pos:=by decide
  rd:=λΓ cs x => ∃A1 c1,cs=Rec.cs A1 c1 x∧Rec.fits Γ A1 c1 x
  len:=by rintro Γ cs x ⟨A1,c1,rfl,h⟩; rfl
  one:=by rintro Γ cs x ⟨A1,c1,rfl,h⟩ u hu; simp only [Rec.cs,List.mem_cons,List.not_mem_nil,or_false] at hu; rcases hu with rfl | rfl <;> rfl
  mono:=by rintro Γ Δ cs x ⟨A1,c1,rfl,h⟩ hs; exact⟨A1,c1,rfl,Rec.fits_mono h hs⟩
theorem Sl.recT_at{Γ:Gh}{A:Option Addr}{xs:List Rec}(h:Sl recT Γ A xs)(i:Nat):∃A1 c1,i<xs.length→Rec.fits Γ A1 c1 (gt xs i)∧Cells Γ A (i*2) (Rec.cs A1 c1 (gt xs i)):=by
  by_cases hi:i<xs.length
  · obtain⟨cs,⟨A1,c1,rfl,h⟩,h2⟩:=h.get i hi
    exact⟨A1,c1,λ_=>⟨h,h2⟩⟩
  · exact⟨none,0,λh=>absurd h hi⟩
theorem Own.recT_at{Γ:Gh}{A:Option Addr}{xs:List Rec}{e c:Nat}{row:Rowb}(h:Own recT Γ e row A c xs)(i:Nat):∃A1 c1,i<xs.length→Rec.fits Γ A1 c1 (gt xs i)∧OCells row A (i*2) (Rec.cs A1 c1 (gt xs i)):=by
  by_cases hi:i<xs.length
  · obtain⟨cs,⟨A1,c1,rfl,h⟩,h2⟩:=h.get hi
    exact⟨A1,c1,λ_=>⟨h,h2⟩⟩
  · exact⟨none,0,λh=>absurd h hi⟩
structure Dfirthref19_Cut where
  id:Int
  vec:(List Int)
  all:(List Rec)
  deriving Inhabited,DecidableEq
def Dfirthref19_Cut.bk(v:Dfirthref19_Cut):Nat:=1+bkOne v.id+(bkL bkOne) v.vec+(bkL Rec.bk) v.all
abbrev Dfirthref19_Cut.fits(Γ:Gh)(A1:Option Addr)(c1:Nat)(A2:Option Addr)(c2:Nat)(x:Dfirthref19_Cut):Prop:=I64 x.id∧(x.vec.length≤c1∧Sl intT Γ A1 x.vec)∧(x.all.length≤c2∧Sl recT Γ A2 x.all)
abbrev Dfirthref19_Cut.cs(A1:Option Addr)(c1:Nat)(A2:Option Addr)(c2:Nat)(x:Dfirthref19_Cut):List Value:=[.int .i64 x.id,.slice A1 x.vec.length c1,.slice A2 x.all.length c2]
theorem Dfirthref19_Cut.fits_mono{Γ Δ:Gh}{A1:Option Addr}{c1:Nat}{A2:Option Addr}{c2:Nat}{x:Dfirthref19_Cut}(h:Dfirthref19_Cut.fits Γ A1 c1 A2 c2 x)(hs:Γ.le Δ):Dfirthref19_Cut.fits Δ A1 c1 A2 c2 x:=by
  obtain⟨h0,h1,h2⟩:=h
  exact⟨h0,⟨h1.1,h1.2.mono hs⟩,⟨h2.1,h2.2.mono hs⟩⟩
def dfirthref19_CutT:Ty Dfirthref19_Cut where
  n:=3
  pos:=by decide
  rd:=λΓ cs x => ∃A1 c1 A2 c2,cs=Dfirthref19_Cut.cs A1 c1 A2 c2 x∧Dfirthref19_Cut.fits Γ A1 c1 A2 c2 x
  len:=by rintro Γ cs x ⟨A1,c1,A2,c2,rfl,h⟩; rfl
  one:=by rintro Γ cs x ⟨A1,c1,A2,c2,rfl,h⟩ u hu; simp only [Dfirthref19_Cut.cs,List.mem_cons,List.not_mem_nil,or_false] at hu; rcases hu with rfl | rfl | rfl <;> rfl
  mono:=by rintro Γ Δ cs x ⟨A1,c1,A2,c2,rfl,h⟩ hs; exact⟨A1,c1,A2,c2,rfl,Dfirthref19_Cut.fits_mono h hs⟩
theorem Sl.dfirthref19_CutT_at{Γ:Gh}{A:Option Addr}{xs:List Dfirthref19_Cut}(h:Sl dfirthref19_CutT Γ A xs)(i:Nat):∃A1 c1 A2 c2,i<xs.length→Dfirthref19_Cut.fits Γ A1 c1 A2 c2 (gt xs i)∧Cells Γ A (i*3) (Dfirthref19_Cut.cs A1 c1 A2 c2 (gt xs i)):=by
  by_cases hi:i<xs.length
  · obtain⟨cs,⟨A1,c1,A2,c2,rfl,h⟩,h2⟩:=h.get i hi
    exact⟨A1,c1,A2,c2,λ_=>⟨h,h2⟩⟩
  · exact⟨none,0,none,0,λh=>absurd h hi⟩
theorem Own.dfirthref19_CutT_at{Γ:Gh}{A:Option Addr}{xs:List Dfirthref19_Cut}{e c:Nat}{row:Rowb}(h:Own dfirthref19_CutT Γ e row A c xs)(i:Nat):∃A1 c1 A2 c2,i<xs.length→Dfirthref19_Cut.fits Γ A1 c1 A2 c2 (gt xs i)∧OCells row A (i*3) (Dfirthref19_Cut.cs A1 c1 A2 c2 (gt xs i)):=by
  by_cases hi:i<xs.length
  · obtain⟨cs,⟨A1,c1,A2,c2,rfl,h⟩,h2⟩:=h.get hi
    exact⟨A1,c1,A2,c2,λ_=>⟨h,h2⟩⟩
  · exact⟨none,0,none,0,λh=>absurd h hi⟩
structure Dfirthlaw19_Op where
  kind:Int
  vec:(List Int)
  path:(List Int)
  hashes:(List Int)
  list:(List Rec)
  deriving Inhabited,DecidableEq
def Dfirthlaw19_Op.bk(v:Dfirthlaw19_Op):Nat:=1+bkOne v.kind+(bkL bkOne) v.vec+(bkL bkOne) v.path+(bkL bkOne) v.hashes+(bkL Rec.bk) v.list
abbrev Dfirthlaw19_Op.fits(Γ:Gh)(A1:Option Addr)(c1:Nat)(A2:Option Addr)(c2:Nat)(A3:Option Addr)(c3:Nat)(A4:Option Addr)(c4:Nat)(x:Dfirthlaw19_Op):Prop:=I64 x.kind∧(x.vec.length≤c1∧Sl intT Γ A1 x.vec)∧(x.path.length≤c2∧Sl intT Γ A2 x.path)∧(x.hashes.length≤c3∧Sl u64T Γ A3 x.hashes)∧(x.list.length≤c4∧Sl recT Γ A4 x.list)
abbrev Dfirthlaw19_Op.cs(A1:Option Addr)(c1:Nat)(A2:Option Addr)(c2:Nat)(A3:Option Addr)(c3:Nat)(A4:Option Addr)(c4:Nat)(x:Dfirthlaw19_Op):List Value:=[.int .i64 x.kind,.slice A1 x.vec.length c1,.slice A2 x.path.length c2,.slice A3 x.hashes.length c3,.slice A4 x.list.length c4]
theorem Dfirthlaw19_Op.fits_mono{Γ Δ:Gh}{A1:Option Addr}{c1:Nat}{A2:Option Addr}{c2:Nat}{A3:Option Addr}{c3:Nat}{A4:Option Addr}{c4:Nat}{x:Dfirthlaw19_Op}(h:Dfirthlaw19_Op.fits Γ A1 c1 A2 c2 A3 c3 A4 c4 x)(hs:Γ.le Δ):Dfirthlaw19_Op.fits Δ A1 c1 A2 c2 A3 c3 A4 c4 x:=by
  obtain⟨h0,h1,h2,h3,h4⟩:=h
  exact⟨h0,⟨h1.1,h1.2.mono hs⟩,⟨h2.1,h2.2.mono hs⟩,⟨h3.1,h3.2.mono hs⟩,⟨h4.1,h4.2.mono hs⟩⟩
def dfirthlaw19_OpT:Ty Dfirthlaw19_Op where
  n:=5
  pos:=by decide
  rd:=λΓ cs x => ∃A1 c1 A2 c2 A3 c3 A4 c4,cs=Dfirthlaw19_Op.cs A1 c1 A2 c2 A3 c3 A4 c4 x∧Dfirthlaw19_Op.fits Γ A1 c1 A2 c2 A3 c3 A4 c4 x
  len:=by rintro Γ cs x ⟨A1,c1,A2,c2,A3,c3,A4,c4,rfl,h⟩; rfl
  one:=by rintro Γ cs x ⟨A1,c1,A2,c2,A3,c3,A4,c4,rfl,h⟩ u hu; simp only [Dfirthlaw19_Op.cs,List.mem_cons,List.not_mem_nil,or_false] at hu; rcases hu with rfl | rfl | rfl | rfl | rfl <;> rfl
  mono:=by rintro Γ Δ cs x ⟨A1,c1,A2,c2,A3,c3,A4,c4,rfl,h⟩ hs; exact⟨A1,c1,A2,c2,A3,c3,A4,c4,rfl,Dfirthlaw19_Op.fits_mono h hs⟩
theorem Sl.dfirthlaw19_OpT_at{Γ:Gh}{A:Option Addr}{xs:List Dfirthlaw19_Op}(h:Sl dfirthlaw19_OpT Γ A xs)(i:Nat):∃A1 c1 A2 c2 A3 c3 A4 c4,i<xs.length→Dfirthlaw19_Op.fits Γ A1 c1 A2 c2 A3 c3 A4 c4 (gt xs i)∧Cells Γ A (i*5) (Dfirthlaw19_Op.cs A1 c1 A2 c2 A3 c3 A4 c4 (gt xs i)):=by
  by_cases hi:i<xs.length
  · obtain⟨cs,⟨A1,c1,A2,c2,A3,c3,A4,c4,rfl,h⟩,h2⟩:=h.get i hi
    exact⟨A1,c1,A2,c2,A3,c3,A4,c4,λ_=>⟨h,h2⟩⟩
  · exact⟨none,0,none,0,none,0,none,0,λh=>absurd h hi⟩
theorem Own.dfirthlaw19_OpT_at{Γ:Gh}{A:Option Addr}{xs:List Dfirthlaw19_Op}{e c:Nat}{row:Rowb}(h:Own dfirthlaw19_OpT Γ e row A c xs)(i:Nat):∃A1 c1 A2 c2 A3 c3 A4 c4,i<xs.length→Dfirthlaw19_Op.fits Γ A1 c1 A2 c2 A3 c3 A4 c4 (gt xs i)∧OCells row A (i*5) (Dfirthlaw19_Op.cs A1 c1 A2 c2 A3 c3 A4 c4 (gt xs i)):=by
  by_cases hi:i<xs.length
  · obtain⟨cs,⟨A1,c1,A2,c2,A3,c3,A4,c4,rfl,h⟩,h2⟩:=h.get hi
    exact⟨A1,c1,A2,c2,A3,c3,A4,c4,λ_=>⟨h,h2⟩⟩
  · exact⟨none,0,none,0,none,0,none,0,λh=>absurd h hi⟩
structure Dfirthref19_Pull where
  id:Int
  own:(List Rec)
  begun:Bool
  vec:(List Int)
  paths:(List (List Int))
  in_:(List Rec)
  deriving Inhabited,DecidableEq
def Dfirthref19_Pull.bk(v:Dfirthref19_Pull):Nat:=1+bkOne v.id+(bkL Rec.bk) v.own+bkOne v.begun+(bkL bkOne) v.vec+(bkL (bkL bkOne)) v.paths+(bkL Rec.bk) v.in_
abbrev Dfirthref19_Pull.fits(Γ:Gh)(A1:Option Addr)(c1:Nat)(A3:Option Addr)(c3:Nat)(A4:Option Addr)(c4:Nat)(A5:Option Addr)(c5:Nat)(x:Dfirthref19_Pull):Prop:=I64 x.id∧(x.own.length≤c1∧Sl recT Γ A1 x.own)∧(x.vec.length≤c3∧Sl intT Γ A3 x.vec)∧(x.paths.length≤c4∧Sl (slT intT) Γ A4 x.paths)∧(x.in_.length≤c5∧Sl recT Γ A5 x.in_)
abbrev Dfirthref19_Pull.cs(A1:Option Addr)(c1:Nat)(A3:Option Addr)(c3:Nat)(A4:Option Addr)(c4:Nat)(A5:Option Addr)(c5:Nat)(x:Dfirthref19_Pull):List Value:=[.int .i64 x.id,.slice A1 x.own.length c1,.bool x.begun,.slice A3 x.vec.length c3,.slice A4 x.paths.length c4,.slice A5 x.in_.length c5]
theorem Dfirthref19_Pull.fits_mono{Γ Δ:Gh}{A1:Option Addr}{c1:Nat}{A3:Option Addr}{c3:Nat}{A4:Option Addr}{c4:Nat}{A5:Option Addr}{c5:Nat}{x:Dfirthref19_Pull}(h:Dfirthref19_Pull.fits Γ A1 c1 A3 c3 A4 c4 A5 c5 x)(hs:Γ.le Δ):Dfirthref19_Pull.fits Δ A1 c1 A3 c3 A4 c4 A5 c5 x:=by
  obtain⟨h0,h1,h2,h3,h4⟩:=h
  exact⟨h0,⟨h1.1,h1.2.mono hs⟩,⟨h2.1,h2.2.mono hs⟩,⟨h3.1,h3.2.mono hs⟩,⟨h4.1,h4.2.mono hs⟩⟩
def dfirthref19_PullT:Ty Dfirthref19_Pull where
  n:=6
  pos:=by decide
  rd:=λΓ cs x => ∃A1 c1 A3 c3 A4 c4 A5 c5,cs=Dfirthref19_Pull.cs A1 c1 A3 c3 A4 c4 A5 c5 x∧Dfirthref19_Pull.fits Γ A1 c1 A3 c3 A4 c4 A5 c5 x
  len:=by rintro Γ cs x ⟨A1,c1,A3,c3,A4,c4,A5,c5,rfl,h⟩; rfl
  one:=by rintro Γ cs x ⟨A1,c1,A3,c3,A4,c4,A5,c5,rfl,h⟩ u hu; simp only [Dfirthref19_Pull.cs,List.mem_cons,List.not_mem_nil,or_false] at hu; rcases hu with rfl | rfl | rfl | rfl | rfl | rfl <;> rfl
  mono:=by rintro Γ Δ cs x ⟨A1,c1,A3,c3,A4,c4,A5,c5,rfl,h⟩ hs; exact⟨A1,c1,A3,c3,A4,c4,A5,c5,rfl,Dfirthref19_Pull.fits_mono h hs⟩
theorem Sl.dfirthref19_PullT_at{Γ:Gh}{A:Option Addr}{xs:List Dfirthref19_Pull}(h:Sl dfirthref19_PullT Γ A xs)(i:Nat):∃A1 c1 A3 c3 A4 c4 A5 c5,i<xs.length→Dfirthref19_Pull.fits Γ A1 c1 A3 c3 A4 c4 A5 c5 (gt xs i)∧Cells Γ A (i*6) (Dfirthref19_Pull.cs A1 c1 A3 c3 A4 c4 A5 c5 (gt xs i)):=by
  by_cases hi:i<xs.length
  · obtain⟨cs,⟨A1,c1,A3,c3,A4,c4,A5,c5,rfl,h⟩,h2⟩:=h.get i hi
    exact⟨A1,c1,A3,c3,A4,c4,A5,c5,λ_=>⟨h,h2⟩⟩
  · exact⟨none,0,none,0,none,0,none,0,λh=>absurd h hi⟩
theorem Own.dfirthref19_PullT_at{Γ:Gh}{A:Option Addr}{xs:List Dfirthref19_Pull}{e c:Nat}{row:Rowb}(h:Own dfirthref19_PullT Γ e row A c xs)(i:Nat):∃A1 c1 A3 c3 A4 c4 A5 c5,i<xs.length→Dfirthref19_Pull.fits Γ A1 c1 A3 c3 A4 c4 A5 c5 (gt xs i)∧OCells row A (i*6) (Dfirthref19_Pull.cs A1 c1 A3 c3 A4 c4 A5 c5 (gt xs i)):=by
  by_cases hi:i<xs.length
  · obtain⟨cs,⟨A1,c1,A3,c3,A4,c4,A5,c5,rfl,h⟩,h2⟩:=h.get hi
    exact⟨A1,c1,A3,c3,A4,c4,A5,c5,λ_=>⟨h,h2⟩⟩
  · exact⟨none,0,none,0,none,0,none,0,λh=>absurd h hi⟩
structure Dpull_way where
  a0:Int
  a1:Int
  deriving Inhabited,DecidableEq
def Dpull_way.bk(v:Dpull_way):Nat:=1+bkOne v.a0+bkOne v.a1
abbrev Dpull_way.fits(Γ:Gh)(x:Dpull_way):Prop:=I64 x.a0∧I64 x.a1
abbrev Dpull_way.cs(x:Dpull_way):List Value:=[.int .i64 x.a0,.int .i64 x.a1]
theorem Dpull_way.fits_mono{Γ Δ:Gh}{x:Dpull_way}(h:Dpull_way.fits Γ  x)(hs:Γ.le Δ):Dpull_way.fits Δ  x:=by
  exact h
def dpull_wayT:Ty Dpull_way where
  n:=2
  pos:=by decide
  rd:=λΓ cs x=>cs=Dpull_way.cs  x∧Dpull_way.fits Γ  x
  len:=by rintro Γ cs x ⟨rfl,h⟩; rfl
  one:=by rintro Γ cs x ⟨rfl,h⟩ u hu; simp only [Dpull_way.cs,List.mem_cons,List.not_mem_nil,or_false] at hu; rcases hu with rfl | rfl <;> rfl
  mono:=by rintro Γ Δ cs x ⟨rfl,h⟩ hs; exact⟨rfl,Dpull_way.fits_mono h hs⟩
theorem Sl.dpull_wayT_at{Γ:Gh}{A:Option Addr}{xs:List Dpull_way}{i:Nat}(h:Sl dpull_wayT Γ A xs)(hi:i<xs.length):Dpull_way.fits Γ (gt xs i)∧Cells Γ A (i*2) (Dpull_way.cs (gt xs i)):=by
  obtain⟨cs,⟨rfl,h1⟩,h2⟩:=h.get i hi
  exact⟨h1,h2⟩
theorem Own.dpull_wayT_at{Γ:Gh}{A:Option Addr}{xs:List Dpull_way}{e c:Nat}{row:Rowb}{i:Nat}(h:Own dpull_wayT Γ e row A c xs)(hi:i<xs.length):Dpull_way.fits Γ (gt xs i)∧OCells row A (i*2) (Dpull_way.cs (gt xs i)):=by
  obtain⟨cs,⟨rfl,h1⟩,h2⟩:=h.get hi
  exact⟨h1,h2⟩
end Fw
end Go.Proofs.YtiakfgdgafljnaaGreat
