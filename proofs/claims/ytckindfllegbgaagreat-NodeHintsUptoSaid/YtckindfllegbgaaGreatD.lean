/- The data types of the program, as Lean structures, and what they are in memory. No condition. -/
import Derived.Test.YtckindfllegbgaaGreatK10
namespace Go.Proofs.YtckindfllegbgaaGreat
namespace Fw
set_option linter.unusedVariables false
set_option linter.unusedSimpArgs false
set_option linter.unusedSectionVars false
open Go.RowKit
structure Druntime_boundsError where
 x_:Int
 y:Int
 signed:Bool
 code:UInt8
 deriving Inhabited,DecidableEq
def Druntime_boundsError.bk(v:Druntime_boundsError):Nat:=1+bkOne v.x_+bkOne v.y+bkOne v.signed+bkOne v.code
abbrev Druntime_boundsError.fits(Γ:Gh)(x:Druntime_boundsError):Prop:=I64 x.x_∧I64 x.y
abbrev Druntime_boundsError.cs(x:Druntime_boundsError):List Value:=[.int .i64 x.x_,.int .i64 x.y,.bool x.signed,.int .u8 (x.code.toNat:Int)]
theorem Druntime_boundsError.fits_mono{Γ Δ:Gh}{x:Druntime_boundsError}(h:Druntime_boundsError.fits Γ  x)(hs:Γ.le Δ):Druntime_boundsError.fits Δ  x:=by
 exact h
structure Druntime_errorAddressString where
 msg:ByteArray
 addr:Int
 deriving Inhabited,DecidableEq
def Druntime_errorAddressString.bk(v:Druntime_errorAddressString):Nat:=1+bkStr v.msg+bkOne v.addr
abbrev Druntime_errorAddressString.fits(Γ:Gh)(x:Druntime_errorAddressString):Prop:=x.msg.size≤lim∧U64 x.addr
abbrev Druntime_errorAddressString.cs(x:Druntime_errorAddressString):List Value:=[.string x.msg,.int .u64 x.addr]
theorem Druntime_errorAddressString.fits_mono{Γ Δ:Gh}{x:Druntime_errorAddressString}(h:Druntime_errorAddressString.fits Γ  x)(hs:Γ.le Δ):Druntime_errorAddressString.fits Δ  x:=by
 exact h
structure Adr where
 site:Int
 node:Int
 deriving Inhabited,DecidableEq
def Adr.bk(v:Adr):Nat:=1+bkOne v.site+bkOne v.node
abbrev Adr.fits(Γ:Gh)(x:Adr):Prop:=I64 x.site∧I64 x.node
abbrev Adr.cs(x:Adr):List Value:=[.int .i64 x.site,.int .i64 x.node]
theorem Adr.fits_mono{Γ Δ:Gh}{x:Adr}(h:Adr.fits Γ  x)(hs:Γ.le Δ):Adr.fits Δ  x:=by
 exact h
structure Dot where
 s:Int
 n:Int
 deriving Inhabited,DecidableEq
def Dot.bk(v:Dot):Nat:=1+bkOne v.s+bkOne v.n
abbrev Dot.fits(Γ:Gh)(x:Dot):Prop:=I64 x.s∧I64 x.n
abbrev Dot.cs(x:Dot):List Value:=[.int .i64 x.s,.int .i64 x.n]
theorem Dot.fits_mono{Γ Δ:Gh}{x:Dot}(h:Dot.fits Γ  x)(hs:Γ.le Δ):Dot.fits Δ  x:=by
 exact h
def dotT:Ty Dot where
 n:=2
 pos:=by decide
 rd:=λΓ cs x=>cs=Dot.cs  x∧Dot.fits Γ  x
 len:=by rintro Γ cs x ⟨rfl,h⟩; rfl
 one:=by rintro Γ cs x ⟨rfl,h⟩ u hu; simp only [Dot.cs,List.mem_cons,List.not_mem_nil,or_false] at hu; rcases hu with rfl | rfl <;> rfl
 mono:=by rintro Γ Δ cs x ⟨rfl,h⟩ hs; exact⟨rfl,Dot.fits_mono h hs⟩
structure Span where
 s:Int
 f:Int
 t:Int
 deriving Inhabited,DecidableEq
def Span.bk(v:Span):Nat:=1+bkOne v.s+bkOne v.f+bkOne v.t
abbrev Span.fits(Γ:Gh)(x:Span):Prop:=I64 x.s∧I64 x.f∧I64 x.t
abbrev Span.cs(x:Span):List Value:=[.int .i64 x.s,.int .i64 x.f,.int .i64 x.t]
theorem Span.fits_mono{Γ Δ:Gh}{x:Span}(h:Span.fits Γ  x)(hs:Γ.le Δ):Span.fits Δ  x:=by
 exact h
def spanT:Ty Span where
 n:=3
 pos:=by decide
 rd:=λΓ cs x=>cs=Span.cs  x∧Span.fits Γ  x
 len:=by rintro Γ cs x ⟨rfl,h⟩; rfl
 one:=by rintro Γ cs x ⟨rfl,h⟩ u hu; simp only [Span.cs,List.mem_cons,List.not_mem_nil,or_false] at hu; rcases hu with rfl | rfl | rfl <;> rfl
 mono:=by rintro Γ Δ cs x ⟨rfl,h⟩ hs; exact⟨rfl,Span.fits_mono h hs⟩
theorem Sl.spanT_at{Γ:Gh}{A:Option Addr}{xs:List Span}{i:Nat}(h:Sl spanT Γ A xs)(hi:i<xs.length):Span.fits Γ (gt xs i)∧Cells Γ A (i*3) (Span.cs (gt xs i)):=by
 obtain⟨cs,⟨rfl,h1⟩,h2⟩:=h.get i hi
 exact⟨h1,h2⟩
theorem Own.spanT_at{Γ:Gh}{A:Option Addr}{xs:List Span}{e c:Nat}{row:Rowb}{i:Nat}(h:Own spanT Γ e row A c xs)(hi:i<xs.length):Span.fits Γ (gt xs i)∧OCells row A (i*3) (Span.cs (gt xs i)):=by
 obtain⟨cs,⟨rfl,h1⟩,h2⟩:=h.get hi
 exact⟨h1,h2⟩
structure Ver where
 dot:Dot
 past:(List Span)
 gone:Bool
 val:ByteArray
 deriving Inhabited,DecidableEq
def Ver.bk(v:Ver):Nat:=1+Dot.bk v.dot+(bkL Span.bk) v.past+bkOne v.gone+bkStr v.val
abbrev Ver.fits(Γ:Gh)(A2:Option Addr)(c2:Nat)(x:Ver):Prop:=I64 x.dot.s∧I64 x.dot.n∧(x.past.length≤c2∧Sl spanT Γ A2 x.past)∧x.val.size≤lim
abbrev Ver.cs(A2:Option Addr)(c2:Nat)(x:Ver):List Value:=[.int .i64 x.dot.s,.int .i64 x.dot.n,.slice A2 x.past.length c2,.bool x.gone,.string x.val]
theorem Ver.fits_mono{Γ Δ:Gh}{A2:Option Addr}{c2:Nat}{x:Ver}(h:Ver.fits Γ A2 c2 x)(hs:Γ.le Δ):Ver.fits Δ A2 c2 x:=by
 obtain⟨h0,h1,h2,h3⟩:=h
 exact⟨h0,h1,⟨h2.1,h2.2.mono hs⟩,h3⟩
def verT:Ty Ver where
 n:=5
 pos:=by decide
 rd:=λΓ cs x => ∃A2 c2,cs=Ver.cs A2 c2 x∧Ver.fits Γ A2 c2 x
 len:=by rintro Γ cs x ⟨A2,c2,rfl,h⟩; rfl
 one:=by rintro Γ cs x ⟨A2,c2,rfl,h⟩ u hu; simp only [Ver.cs,List.mem_cons,List.not_mem_nil,or_false] at hu; rcases hu with rfl | rfl | rfl | rfl | rfl <;> rfl
 mono:=by rintro Γ Δ cs x ⟨A2,c2,rfl,h⟩ hs; exact⟨A2,c2,rfl,Ver.fits_mono h hs⟩
theorem Sl.verT_at{Γ:Gh}{A:Option Addr}{xs:List Ver}(h:Sl verT Γ A xs)(i:Nat):∃A2 c2,i<xs.length→Ver.fits Γ A2 c2 (gt xs i)∧Cells Γ A (i*5) (Ver.cs A2 c2 (gt xs i)):=by
 by_cases hi:i<xs.length
 ·obtain⟨cs,⟨A2,c2,rfl,h⟩,h2⟩:=h.get i hi
  exact⟨A2,c2,λ_=>⟨h,h2⟩⟩
 ·exact⟨none,0,λh=>absurd h hi⟩
theorem Own.verT_at{Γ:Gh}{A:Option Addr}{xs:List Ver}{e c:Nat}{row:Rowb}(h:Own verT Γ e row A c xs)(i:Nat):∃A2 c2,i<xs.length→Ver.fits Γ A2 c2 (gt xs i)∧OCells row A (i*5) (Ver.cs A2 c2 (gt xs i)):=by
 by_cases hi:i<xs.length
 ·obtain⟨cs,⟨A2,c2,rfl,h⟩,h2⟩:=h.get hi
  exact⟨A2,c2,λ_=>⟨h,h2⟩⟩
 ·exact⟨none,0,λh=>absurd h hi⟩
structure Rec where
 key:ByteArray
 vers:(List Ver)
 deriving Inhabited,DecidableEq
def Rec.bk(v:Rec):Nat:=1+bkStr v.key+(bkL Ver.bk) v.vers
abbrev Rec.fits(Γ:Gh)(A1:Option Addr)(c1:Nat)(x:Rec):Prop:=x.key.size≤lim∧(x.vers.length≤c1∧Sl verT Γ A1 x.vers)
abbrev Rec.cs(A1:Option Addr)(c1:Nat)(x:Rec):List Value:=[.string x.key,.slice A1 x.vers.length c1]
theorem Rec.fits_mono{Γ Δ:Gh}{A1:Option Addr}{c1:Nat}{x:Rec}(h:Rec.fits Γ A1 c1 x)(hs:Γ.le Δ):Rec.fits Δ A1 c1 x:=by
 obtain⟨h0,h1⟩:=h
 exact⟨h0,⟨h1.1,h1.2.mono hs⟩⟩
def recT:Ty Rec where
 n:=2
 pos:=by decide
 rd:=λΓ cs x => ∃A1 c1,cs=Rec.cs A1 c1 x∧Rec.fits Γ A1 c1 x
 len:=by rintro Γ cs x ⟨A1,c1,rfl,h⟩; rfl
 one:=by rintro Γ cs x ⟨A1,c1,rfl,h⟩ u hu; simp only [Rec.cs,List.mem_cons,List.not_mem_nil,or_false] at hu; rcases hu with rfl | rfl <;> rfl
 mono:=by rintro Γ Δ cs x ⟨A1,c1,rfl,h⟩ hs; exact⟨A1,c1,rfl,Rec.fits_mono h hs⟩
theorem Sl.recT_at{Γ:Gh}{A:Option Addr}{xs:List Rec}(h:Sl recT Γ A xs)(i:Nat):∃A1 c1,i<xs.length→Rec.fits Γ A1 c1 (gt xs i)∧Cells Γ A (i*2) (Rec.cs A1 c1 (gt xs i)):=by
 by_cases hi:i<xs.length
 ·obtain⟨cs,⟨A1,c1,rfl,h⟩,h2⟩:=h.get i hi
  exact⟨A1,c1,λ_=>⟨h,h2⟩⟩
 ·exact⟨none,0,λh=>absurd h hi⟩
theorem Own.recT_at{Γ:Gh}{A:Option Addr}{xs:List Rec}{e c:Nat}{row:Rowb}(h:Own recT Γ e row A c xs)(i:Nat):∃A1 c1,i<xs.length→Rec.fits Γ A1 c1 (gt xs i)∧OCells row A (i*2) (Rec.cs A1 c1 (gt xs i)):=by
 by_cases hi:i<xs.length
 ·obtain⟨cs,⟨A1,c1,rfl,h⟩,h2⟩:=h.get hi
  exact⟨A1,c1,λ_=>⟨h,h2⟩⟩
 ·exact⟨none,0,λh=>absurd h hi⟩
structure Dapi_Msg where
 kind:Int
 from_:Adr
 to_:Adr
 id:Int
 n:Int
 for_:Int
 code:Int
 key:ByteArray
 recs:(List Rec)
 vec:(List Int)
 path:(List Int)
 hashes:(List Int)
 route:(List Int)
 deriving Inhabited,DecidableEq
def Dapi_Msg.bk(v:Dapi_Msg):Nat:=1+bkOne v.kind+Adr.bk v.from_+Adr.bk v.to_+bkOne v.id+bkOne v.n+bkOne v.for_+bkOne v.code+bkStr v.key+(bkL Rec.bk) v.recs+(bkL bkOne) v.vec+(bkL bkOne) v.path+(bkL bkOne) v.hashes+(bkL bkOne) v.route
abbrev Dapi_Msg.fits(Γ:Gh)(A10:Option Addr)(c10:Nat)(A11:Option Addr)(c11:Nat)(A12:Option Addr)(c12:Nat)(A13:Option Addr)(c13:Nat)(A14:Option Addr)(c14:Nat)(x:Dapi_Msg):Prop:=I64 x.kind∧I64 x.from_.site∧I64 x.from_.node∧I64 x.to_.site∧I64 x.to_.node∧I64 x.id∧I64 x.n∧I64 x.for_∧I64 x.code∧x.key.size≤lim∧(x.recs.length≤c10∧Sl recT Γ A10 x.recs)∧(x.vec.length≤c11∧Sl intT Γ A11 x.vec)∧(x.path.length≤c12∧Sl intT Γ A12 x.path)∧(x.hashes.length≤c13∧Sl u64T Γ A13 x.hashes)∧(x.route.length≤c14∧Sl intT Γ A14 x.route)
abbrev Dapi_Msg.cs(A10:Option Addr)(c10:Nat)(A11:Option Addr)(c11:Nat)(A12:Option Addr)(c12:Nat)(A13:Option Addr)(c13:Nat)(A14:Option Addr)(c14:Nat)(x:Dapi_Msg):List Value:=[.int .i64 x.kind,.int .i64 x.from_.site,.int .i64 x.from_.node,.int .i64 x.to_.site,.int .i64 x.to_.node,.int .i64 x.id,.int .i64 x.n,.int .i64 x.for_,.int .i64 x.code,.string x.key,.slice A10 x.recs.length c10,.slice A11 x.vec.length c11,.slice A12 x.path.length c12,.slice A13 x.hashes.length c13,.slice A14 x.route.length c14]
theorem Dapi_Msg.fits_mono{Γ Δ:Gh}{A10:Option Addr}{c10:Nat}{A11:Option Addr}{c11:Nat}{A12:Option Addr}{c12:Nat}{A13:Option Addr}{c13:Nat}{A14:Option Addr}{c14:Nat}{x:Dapi_Msg}(h:Dapi_Msg.fits Γ A10 c10 A11 c11 A12 c12 A13 c13 A14 c14 x)(hs:Γ.le Δ):Dapi_Msg.fits Δ A10 c10 A11 c11 A12 c12 A13 c13 A14 c14 x:=by
 obtain⟨h0,h1,h2,h3,h4,h5,h6,h7,h8,h9,h10,h11,h12,h13,h14⟩:=h
 exact⟨h0,h1,h2,h3,h4,h5,h6,h7,h8,h9,⟨h10.1,h10.2.mono hs⟩,⟨h11.1,h11.2.mono hs⟩,⟨h12.1,h12.2.mono hs⟩,⟨h13.1,h13.2.mono hs⟩,⟨h14.1,h14.2.mono hs⟩⟩
def dapi_MsgT:Ty Dapi_Msg where
 n:=15
 pos:=by decide
 rd:=λΓ cs x => ∃A10 c10 A11 c11 A12 c12 A13 c13 A14 c14,cs=Dapi_Msg.cs A10 c10 A11 c11 A12 c12 A13 c13 A14 c14 x∧Dapi_Msg.fits Γ A10 c10 A11 c11 A12 c12 A13 c13 A14 c14 x
 len:=by rintro Γ cs x ⟨A10,c10,A11,c11,A12,c12,A13,c13,A14,c14,rfl,h⟩; rfl
 one:=by rintro Γ cs x ⟨A10,c10,A11,c11,A12,c12,A13,c13,A14,c14,rfl,h⟩ u hu; simp only [Dapi_Msg.cs,List.mem_cons,List.not_mem_nil,or_false] at hu; rcases hu with rfl | rfl | rfl | rfl | rfl | rfl | rfl | rfl | rfl | rfl | rfl | rfl | rfl | rfl | rfl <;> rfl
 mono:=by rintro Γ Δ cs x ⟨A10,c10,A11,c11,A12,c12,A13,c13,A14,c14,rfl,h⟩ hs; exact⟨A10,c10,A11,c11,A12,c12,A13,c13,A14,c14,rfl,Dapi_Msg.fits_mono h hs⟩
theorem Sl.dapi_MsgT_at{Γ:Gh}{A:Option Addr}{xs:List Dapi_Msg}(h:Sl dapi_MsgT Γ A xs)(i:Nat):∃A10 c10 A11 c11 A12 c12 A13 c13 A14 c14,i<xs.length→Dapi_Msg.fits Γ A10 c10 A11 c11 A12 c12 A13 c13 A14 c14 (gt xs i)∧Cells Γ A (i*15) (Dapi_Msg.cs A10 c10 A11 c11 A12 c12 A13 c13 A14 c14 (gt xs i)):=by
 by_cases hi:i<xs.length
 ·obtain⟨cs,⟨A10,c10,A11,c11,A12,c12,A13,c13,A14,c14,rfl,h⟩,h2⟩:=h.get i hi
  exact⟨A10,c10,A11,c11,A12,c12,A13,c13,A14,c14,λ_=>⟨h,h2⟩⟩
 ·exact⟨none,0,none,0,none,0,none,0,none,0,λh=>absurd h hi⟩
theorem Own.dapi_MsgT_at{Γ:Gh}{A:Option Addr}{xs:List Dapi_Msg}{e c:Nat}{row:Rowb}(h:Own dapi_MsgT Γ e row A c xs)(i:Nat):∃A10 c10 A11 c11 A12 c12 A13 c13 A14 c14,i<xs.length→Dapi_Msg.fits Γ A10 c10 A11 c11 A12 c12 A13 c13 A14 c14 (gt xs i)∧OCells row A (i*15) (Dapi_Msg.cs A10 c10 A11 c11 A12 c12 A13 c13 A14 c14 (gt xs i)):=by
 by_cases hi:i<xs.length
 ·obtain⟨cs,⟨A10,c10,A11,c11,A12,c12,A13,c13,A14,c14,rfl,h⟩,h2⟩:=h.get hi
  exact⟨A10,c10,A11,c11,A12,c12,A13,c13,A14,c14,λ_=>⟨h,h2⟩⟩
 ·exact⟨none,0,none,0,none,0,none,0,none,0,λh=>absurd h hi⟩
inductive Cdisk_change_do where
 | disk_add_1 (a0:ByteArray) (a1:(List UInt8))
 | disk_Disk_Cut_1 (a0:ByteArray) (a1:Int)
 | disk_Disk_Remove_1 (a0:ByteArray)
 deriving Inhabited,DecidableEq
def Cdisk_change_do.fid:Cdisk_change_do→FuncId
 | .disk_add_1 _ _=>77
 | .disk_Disk_Cut_1 _ _=>155
 | .disk_Disk_Remove_1 _=>161
def Cdisk_change_do.caps:Cdisk_change_do→Option Addr→Nat→Array Value
 | .disk_add_1 _ _,A,c=>#[.pointer (some ⟨c,0,none⟩),.pointer A]
 | .disk_Disk_Cut_1 _ _,A,c=>#[.pointer (some ⟨c,0,none⟩),.pointer A]
 | .disk_Disk_Remove_1 _,A,c=>#[.pointer (some ⟨c,0,none⟩)]
def Cdisk_change_do.val(x:Cdisk_change_do)(A:Option Addr)(c:Nat):Value:=.func (.func (Cdisk_change_do.fid x)) #[] (Cdisk_change_do.caps x A c)
theorem Cdisk_change_do.val_one(x:Cdisk_change_do)(A:Option Addr)(c:Nat):(Cdisk_change_do.val x A c).oneCell'=true:=rfl
def Cdisk_change_do.ok(Γ:Gh)(A:Option Addr)(c:Nat):Cdisk_change_do→Prop
 | .disk_add_1 a0 a1=>(Γ c=some (.cells #[.string a0] 9 (0,0))∧a0.size≤lim)∧(∃(g1:Nat) (A1_0:Option Addr) (c1_0:Nat),A=some ⟨g1,0,none⟩∧Γ g1=some (.cells #[.slice A1_0 a1.length c1_0] 77 (0,0))∧a1.length≤c1_0∧Sl byteT Γ A1_0 a1)∧True
 | .disk_Disk_Cut_1 a0 a1=>(Γ c=some (.cells #[.string a0] 9 (0,0))∧a0.size≤lim)∧(∃(g1:Nat),A=some ⟨g1,0,none⟩∧Γ g1=some (.cells #[.int .i64 a1] 3 (0,0))∧I64 a1)∧True
 | .disk_Disk_Remove_1 a0=>(Γ c=some (.cells #[.string a0] 9 (0,0))∧a0.size≤lim)∧True
theorem Cdisk_change_do.ok.mono{Γ Δ:Gh}{A:Option Addr}{c:Nat}:∀{x:Cdisk_change_do},Cdisk_change_do.ok Γ A c x→Γ.le Δ→Cdisk_change_do.ok Δ A c x:=by
 intro x h hs; revert h; exact match x with
 | .disk_add_1 _ _=>λ⟨⟨h0_0,h0_1⟩,⟨g1,A1_0,c1_0,h1_0,h1_1,h1_2,h1_3⟩,_⟩=>⟨⟨hs _ _ h0_0,h0_1⟩,⟨g1,A1_0,c1_0,h1_0,hs _ _ h1_1,h1_2,h1_3.mono hs⟩,trivial⟩
 | .disk_Disk_Cut_1 _ _=>λ⟨⟨h0_0,h0_1⟩,⟨g1,h1_0,h1_1,h1_2⟩,_⟩=>⟨⟨hs _ _ h0_0,h0_1⟩,⟨g1,h1_0,hs _ _ h1_1,h1_2⟩,trivial⟩
 | .disk_Disk_Remove_1 _=>λ⟨⟨h0_0,h0_1⟩,_⟩=>⟨⟨hs _ _ h0_0,h0_1⟩,trivial⟩
structure Ddisk_change where
 do_:Cdisk_change_do
 name:ByteArray
 tail:(List UInt8)
 deriving Inhabited,DecidableEq
def Ddisk_change.bk(v:Ddisk_change):Nat:=1+bkOne v.do_+bkStr v.name+(bkL bkOne) v.tail
abbrev Ddisk_change.fits(Γ:Gh)(A0:Option Addr)(c0:Nat)(A2:Option Addr)(c2:Nat)(x:Ddisk_change):Prop:=Cdisk_change_do.ok Γ A0 c0 x.do_∧x.name.size≤lim∧(x.tail.length≤c2∧Sl byteT Γ A2 x.tail)
abbrev Ddisk_change.cs(A0:Option Addr)(c0:Nat)(A2:Option Addr)(c2:Nat)(x:Ddisk_change):List Value:=[Cdisk_change_do.val x.do_ A0 c0,.string x.name,.slice A2 x.tail.length c2]
theorem Ddisk_change.fits_mono{Γ Δ:Gh}{A0:Option Addr}{c0:Nat}{A2:Option Addr}{c2:Nat}{x:Ddisk_change}(h:Ddisk_change.fits Γ A0 c0 A2 c2 x)(hs:Γ.le Δ):Ddisk_change.fits Δ A0 c0 A2 c2 x:=by
 obtain⟨h0,h1,h2⟩:=h
 exact⟨Cdisk_change_do.ok.mono h0 hs,h1,⟨h2.1,h2.2.mono hs⟩⟩
def ddisk_changeT:Ty Ddisk_change where
 n:=3
 pos:=by decide
 rd:=λΓ cs x => ∃A0 c0 A2 c2,cs=Ddisk_change.cs A0 c0 A2 c2 x∧Ddisk_change.fits Γ A0 c0 A2 c2 x
 len:=by rintro Γ cs x ⟨A0,c0,A2,c2,rfl,h⟩; rfl
 one:=by rintro Γ cs x ⟨A0,c0,A2,c2,rfl,h⟩ u hu; simp only [Ddisk_change.cs,List.mem_cons,List.not_mem_nil,or_false] at hu; rcases hu with rfl | rfl | rfl <;> first | rfl | exact Cdisk_change_do.val_one _ _ _
 mono:=by rintro Γ Δ cs x ⟨A0,c0,A2,c2,rfl,h⟩ hs; exact⟨A0,c0,A2,c2,rfl,Ddisk_change.fits_mono h hs⟩
theorem Sl.ddisk_changeT_at{Γ:Gh}{A:Option Addr}{xs:List Ddisk_change}(h:Sl ddisk_changeT Γ A xs)(i:Nat):∃A0 c0 A2 c2,i<xs.length→Ddisk_change.fits Γ A0 c0 A2 c2 (gt xs i)∧Cells Γ A (i*3) (Ddisk_change.cs A0 c0 A2 c2 (gt xs i)):=by
 by_cases hi:i<xs.length
 ·obtain⟨cs,⟨A0,c0,A2,c2,rfl,h⟩,h2⟩:=h.get i hi
  exact⟨A0,c0,A2,c2,λ_=>⟨h,h2⟩⟩
 ·exact⟨none,0,none,0,λh=>absurd h hi⟩
theorem Own.ddisk_changeT_at{Γ:Gh}{A:Option Addr}{xs:List Ddisk_change}{e c:Nat}{row:Rowb}(h:Own ddisk_changeT Γ e row A c xs)(i:Nat):∃A0 c0 A2 c2,i<xs.length→Ddisk_change.fits Γ A0 c0 A2 c2 (gt xs i)∧OCells row A (i*3) (Ddisk_change.cs A0 c0 A2 c2 (gt xs i)):=by
 by_cases hi:i<xs.length
 ·obtain⟨cs,⟨A0,c0,A2,c2,rfl,h⟩,h2⟩:=h.get hi
  exact⟨A0,c0,A2,c2,λ_=>⟨h,h2⟩⟩
 ·exact⟨none,0,none,0,λh=>absurd h hi⟩
structure Dmend_Step where
 path:(List Int)
 hashes:(List Int)
 recs:(List Rec)
 deriving Inhabited,DecidableEq
def Dmend_Step.bk(v:Dmend_Step):Nat:=1+(bkL bkOne) v.path+(bkL bkOne) v.hashes+(bkL Rec.bk) v.recs
abbrev Dmend_Step.fits(Γ:Gh)(A0:Option Addr)(c0:Nat)(A1:Option Addr)(c1:Nat)(A2:Option Addr)(c2:Nat)(x:Dmend_Step):Prop:=(x.path.length≤c0∧Sl intT Γ A0 x.path)∧(x.hashes.length≤c1∧Sl u64T Γ A1 x.hashes)∧(x.recs.length≤c2∧Sl recT Γ A2 x.recs)
abbrev Dmend_Step.cs(A0:Option Addr)(c0:Nat)(A1:Option Addr)(c1:Nat)(A2:Option Addr)(c2:Nat)(x:Dmend_Step):List Value:=[.slice A0 x.path.length c0,.slice A1 x.hashes.length c1,.slice A2 x.recs.length c2]
theorem Dmend_Step.fits_mono{Γ Δ:Gh}{A0:Option Addr}{c0:Nat}{A1:Option Addr}{c1:Nat}{A2:Option Addr}{c2:Nat}{x:Dmend_Step}(h:Dmend_Step.fits Γ A0 c0 A1 c1 A2 c2 x)(hs:Γ.le Δ):Dmend_Step.fits Δ A0 c0 A1 c1 A2 c2 x:=by
 obtain⟨h0,h1,h2⟩:=h
 exact⟨⟨h0.1,h0.2.mono hs⟩,⟨h1.1,h1.2.mono hs⟩,⟨h2.1,h2.2.mono hs⟩⟩
structure Dcode_reader where
 b:(List UInt8)
 at_:Int
 deriving Inhabited,DecidableEq
def Dcode_reader.bk(v:Dcode_reader):Nat:=1+(bkL bkOne) v.b+bkOne v.at_
abbrev Dcode_reader.fits(Γ:Gh)(A0:Option Addr)(c0:Nat)(x:Dcode_reader):Prop:=(x.b.length≤c0∧Sl byteT Γ A0 x.b)∧I64 x.at_
abbrev Dcode_reader.cs(A0:Option Addr)(c0:Nat)(x:Dcode_reader):List Value:=[.slice A0 x.b.length c0,.int .i64 x.at_]
theorem Dcode_reader.fits_mono{Γ Δ:Gh}{A0:Option Addr}{c0:Nat}{x:Dcode_reader}(h:Dcode_reader.fits Γ A0 c0 x)(hs:Γ.le Δ):Dcode_reader.fits Δ A0 c0 x:=by
 obtain⟨h0,h1⟩:=h
 exact⟨⟨h0.1,h0.2.mono hs⟩,h1⟩
structure Dcode_writer where
 b:(List UInt8)
 deriving Inhabited,DecidableEq
def Dcode_writer.bk(v:Dcode_writer):Nat:=1+(bkL bkOne) v.b
abbrev Dcode_writer.fits(Γ:Gh)(A0:Option Addr)(c0:Nat)(x:Dcode_writer):Prop:=(x.b.length≤c0∧Sl byteT Γ A0 x.b)
abbrev Dcode_writer.cs(A0:Option Addr)(c0:Nat)(x:Dcode_writer):List Value:=[.slice A0 x.b.length c0]
theorem Dcode_writer.fits_mono{Γ Δ:Gh}{A0:Option Addr}{c0:Nat}{x:Dcode_writer}(h:Dcode_writer.fits Γ A0 c0 x)(hs:Γ.le Δ):Dcode_writer.fits Δ A0 c0 x:=by
 have h0:=h
 exact⟨h0.1,h0.2.mono hs⟩
end Fw
end Go.Proofs.YtckindfllegbgaaGreat
