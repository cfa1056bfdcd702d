/- The data types of the program, as Lean structures, and what they are in memory. No condition. -/
import Derived.Test.YtgaplodcdhhefaaGreatK10
namespace Go.Proofs.YtgaplodcdhhefaaGreat
namespace Fw
set_option linter.unusedVariables false
set_option linter.unusedSimpArgs false
set_option linter.unusedSectionVars false
open Go.RowKit
structure aO where
 x_:Int
 y:Int
 signed:Bool
 code:UInt8
 deriving Inhabited,DecidableEq
def aO.bk(v:aO):Nat:=1+dg v.x_+dg v.y+dg v.signed+dg v.code
abbrev aO.fits(Γ:Gh)(x:aO):Prop:=I64 x.x_∧I64 x.y
abbrev aO.cs(x:aO):List Value:=[.int .i64 x.x_,.int .i64 x.y,.bool x.signed,.int .u8 (x.code.toNat:Int)]
theorem aO.fits_mono{Γ Δ:Gh}{x:aO}(h:aO.fits Γ  x)(hs:Γ.le Δ):aO.fits Δ  x:=by
 exact h
structure aB where
 msg:ByteArray
 addr:Int
 deriving Inhabited,DecidableEq
def aB.bk(v:aB):Nat:=1+rz v.msg+dg v.addr
abbrev aB.fits(Γ:Gh)(x:aB):Prop:=x.msg.size≤lim∧U64 x.addr
abbrev aB.cs(x:aB):List Value:=[.string x.msg,.int .u64 x.addr]
theorem aB.fits_mono{Γ Δ:Gh}{x:aB}(h:aB.fits Γ  x)(hs:Γ.le Δ):aB.fits Δ  x:=by
 exact h
structure Adr where
 site:Int
 node:Int
 deriving Inhabited,DecidableEq
def Adr.bk(v:Adr):Nat:=1+dg v.site+dg v.node
abbrev Adr.fits(Γ:Gh)(x:Adr):Prop:=I64 x.site∧I64 x.node
abbrev Adr.cs(x:Adr):List Value:=[.int .i64 x.site,.int .i64 x.node]
theorem Adr.fits_mono{Γ Δ:Gh}{x:Adr}(h:Adr.fits Γ  x)(hs:Γ.le Δ):Adr.fits Δ  x:=by
 exact h
structure Dot where
 s:Int
 n:Int
 deriving Inhabited,DecidableEq
def Dot.bk(v:Dot):Nat:=1+dg v.s+dg v.n
abbrev Dot.fits(Γ:Gh)(x:Dot):Prop:=I64 x.s∧I64 x.n
abbrev Dot.cs(x:Dot):List Value:=[.int .i64 x.s,.int .i64 x.n]
theorem Dot.fits_mono{Γ Δ:Gh}{x:Dot}(h:Dot.fits Γ  x)(hs:Γ.le Δ):Dot.fits Δ  x:=by
 exact h
def dotT:Ty Dot where
 n:=2
 pos:=by decide
 rd:=λΓ cs x=>cs=Dot.cs  x∧Dot.fits Γ  x
 len:=by rintro Γ cs x ⟨rfl,h⟩; rfl
 one:=by rintro Γ cs x ⟨rfl,h⟩ u hu; simp only [Dot.cs,DX,List.not_mem_nil,or_false] at hu; rcases hu with rfl | rfl <;> rfl
 mono:=by rintro Γ Δ cs x ⟨rfl,h⟩ hs; exact⟨rfl,Dot.fits_mono h hs⟩
structure Span where
 s:Int
 f:Int
 t:Int
 deriving Inhabited,DecidableEq
def Span.bk(v:Span):Nat:=1+dg v.s+dg v.f+dg v.t
abbrev Span.fits(Γ:Gh)(x:Span):Prop:=I64 x.s∧I64 x.f∧I64 x.t
abbrev Span.cs(x:Span):List Value:=[.int .i64 x.s,.int .i64 x.f,.int .i64 x.t]
theorem Span.fits_mono{Γ Δ:Gh}{x:Span}(h:Span.fits Γ  x)(hs:Γ.le Δ):Span.fits Δ  x:=by
 exact h
def bW:Ty Span where
 n:=3
 pos:=by decide
 rd:=λΓ cs x=>cs=Span.cs  x∧Span.fits Γ  x
 len:=by rintro Γ cs x ⟨rfl,h⟩; rfl
 one:=by rintro Γ cs x ⟨rfl,h⟩ u hu; simp only [Span.cs,DX,List.not_mem_nil,or_false] at hu; rcases hu with rfl | rfl | rfl <;> rfl
 mono:=by rintro Γ Δ cs x ⟨rfl,h⟩ hs; exact⟨rfl,Span.fits_mono h hs⟩
theorem Sl.spanT_at{Γ:Gh}{A:Option Addr}{xs:List Span}{i:Nat}(h:Sl bW Γ A xs)(hi:i<xs.length):Span.fits Γ (gt xs i)∧eQ Γ A (i*3) (Span.cs (gt xs i)):=by
 obtain⟨cs,⟨rfl,h1⟩,h2⟩:=h.get i hi
 exact⟨h1,h2⟩
theorem Own.spanT_at{Γ:Gh}{A:Option Addr}{xs:List Span}{e c:Nat}{row:Rowb}{i:Nat}(h:Own bW Γ e row A c xs)(hi:i<xs.length):Span.fits Γ (gt xs i)∧k5 row A (i*3) (Span.cs (gt xs i)):=by
 obtain⟨cs,⟨rfl,h1⟩,h2⟩:=h.get hi
 exact⟨h1,h2⟩
structure Ver where
 dot:Dot
 past:(List Span)
 gone:Bool
 val:ByteArray
 deriving Inhabited,DecidableEq
def Ver.bk(v:Ver):Nat:=1+Dot.bk v.dot+(bkL Span.bk) v.past+dg v.gone+rz v.val
abbrev Ver.fits(Γ:Gh)(A2:Option Addr)(c2:Nat)(x:Ver):Prop:=I64 x.dot.s∧I64 x.dot.n∧(x.past.length≤c2∧Sl bW Γ A2 x.past)∧x.val.size≤lim
abbrev Ver.cs(A2:Option Addr)(c2:Nat)(x:Ver):List Value:=[.int .i64 x.dot.s,.int .i64 x.dot.n,.slice A2 x.past.length c2,.bool x.gone,.string x.val]
theorem Ver.fits_mono{Γ Δ:Gh}{A2:Option Addr}{c2:Nat}{x:Ver}(h:Ver.fits Γ A2 c2 x)(hs:Γ.le Δ):Ver.fits Δ A2 c2 x:=by
 obtain⟨h0,h1,h2,h3⟩:=h
 exact⟨h0,h1,⟨h2.1,h2.2.mono hs⟩,h3⟩
def verT:Ty Ver where
 n:=5
 pos:=by decide
 rd:=λΓ cs x => ∃A2 c2,cs=Ver.cs A2 c2 x∧Ver.fits Γ A2 c2 x
 len:=by rintro Γ cs x ⟨A2,c2,rfl,h⟩; rfl
 one:=by rintro Γ cs x ⟨A2,c2,rfl,h⟩ u hu; simp only [Ver.cs,DX,List.not_mem_nil,or_false] at hu; rcases hu with rfl | rfl | rfl | rfl | rfl <;> rfl
 mono:=by rintro Γ Δ cs x ⟨A2,c2,rfl,h⟩ hs; exact⟨A2,c2,rfl,Ver.fits_mono h hs⟩
theorem Sl.verT_at{Γ:Gh}{A:Option Addr}{xs:List Ver}(h:Sl verT Γ A xs)(i:Nat):∃A2 c2,i<xs.length→Ver.fits Γ A2 c2 (gt xs i)∧eQ Γ A (i*5) (Ver.cs A2 c2 (gt xs i)):=by
 by_cases hi:i<xs.length
 ·obtain⟨cs,⟨A2,c2,rfl,h⟩,h2⟩:=h.get i hi
  exact⟨A2,c2,λ_=>⟨h,h2⟩⟩
 ·exact⟨none,0,λh=>absurd h hi⟩
theorem Own.verT_at{Γ:Gh}{A:Option Addr}{xs:List Ver}{e c:Nat}{row:Rowb}(h:Own verT Γ e row A c xs)(i:Nat):∃A2 c2,i<xs.length→Ver.fits Γ A2 c2 (gt xs i)∧k5 row A (i*5) (Ver.cs A2 c2 (gt xs i)):=by
 by_cases hi:i<xs.length
 ·obtain⟨cs,⟨A2,c2,rfl,h⟩,h2⟩:=h.get hi
  exact⟨A2,c2,λ_=>⟨h,h2⟩⟩
 ·exact⟨none,0,λh=>absurd h hi⟩
structure Rec where
 key:ByteArray
 vers:(List Ver)
 deriving Inhabited,DecidableEq
def Rec.bk(v:Rec):Nat:=1+rz v.key+(bkL Ver.bk) v.vers
abbrev Rec.fits(Γ:Gh)(A1:Option Addr)(c1:Nat)(x:Rec):Prop:=x.key.size≤lim∧(x.vers.length≤c1∧Sl verT Γ A1 x.vers)
abbrev Rec.cs(A1:Option Addr)(c1:Nat)(x:Rec):List Value:=[.string x.key,.slice A1 x.vers.length c1]
theorem Rec.fits_mono{Γ Δ:Gh}{A1:Option Addr}{c1:Nat}{x:Rec}(h:Rec.fits Γ A1 c1 x)(hs:Γ.le Δ):Rec.fits Δ A1 c1 x:=by
 obtain⟨h0,h1⟩:=h
 exact⟨h0,⟨h1.1,h1.2.mono hs⟩⟩
def recT:Ty Rec where
 n:=2
 pos:=by decide
 rd:=λΓ cs x => ∃A1 c1,cs=Rec.cs A1 c1 x∧Rec.fits Γ A1 c1 x
 len:=by rintro Γ cs x ⟨A1,c1,rfl,h⟩; rfl
 one:=by rintro Γ cs x ⟨A1,c1,rfl,h⟩ u hu; simp only [Rec.cs,DX,List.not_mem_nil,or_false] at hu; rcases hu with rfl | rfl <;> rfl
 mono:=by rintro Γ Δ cs x ⟨A1,c1,rfl,h⟩ hs; exact⟨A1,c1,rfl,Rec.fits_mono h hs⟩
theorem Sl.recT_at{Γ:Gh}{A:Option Addr}{xs:List Rec}(h:Sl recT Γ A xs)(i:Nat):∃A1 c1,i<xs.length→Rec.fits Γ A1 c1 (gt xs i)∧eQ Γ A (i*2) (Rec.cs A1 c1 (gt xs i)):=by
 by_cases hi:i<xs.length
 ·obtain⟨cs,⟨A1,c1,rfl,h⟩,h2⟩:=h.get i hi
  exact⟨A1,c1,λ_=>⟨h,h2⟩⟩
 ·exact⟨none,0,λh=>absurd h hi⟩
theorem Own.recT_at{Γ:Gh}{A:Option Addr}{xs:List Rec}{e c:Nat}{row:Rowb}(h:Own recT Γ e row A c xs)(i:Nat):∃A1 c1,i<xs.length→Rec.fits Γ A1 c1 (gt xs i)∧k5 row A (i*2) (Rec.cs A1 c1 (gt xs i)):=by
 by_cases hi:i<xs.length
 ·obtain⟨cs,⟨A1,c1,rfl,h⟩,h2⟩:=h.get hi
  exact⟨A1,c1,λ_=>⟨h,h2⟩⟩
 ·exact⟨none,0,λh=>absurd h hi⟩
structure ae where
 kind:Int
 from_:Adr
 to_:Adr
 id:Int
 n:Int
 for_:Int
 code:Int
 key:ByteArray
 recs:(List Rec)
 vec:(List Int)
 path:(List Int)
 hashes:(List Int)
 route:(List Int)
 deriving Inhabited,DecidableEq
def ae.bk(v:ae):Nat:=1+dg v.kind+Adr.bk v.from_+Adr.bk v.to_+dg v.id+dg v.n+dg v.for_+dg v.code+rz v.key+(bkL Rec.bk) v.recs+(bkL dg) v.vec+(bkL dg) v.path+(bkL dg) v.hashes+(bkL dg) v.route
abbrev ae.fits(Γ:Gh)(A10:Option Addr)(c10:Nat)(A11:Option Addr)(c11:Nat)(A12:Option Addr)(c12:Nat)(A13:Option Addr)(c13:Nat)(A14:Option Addr)(c14:Nat)(x:ae):Prop:=I64 x.kind∧I64 x.from_.site∧I64 x.from_.node∧I64 x.to_.site∧I64 x.to_.node∧I64 x.id∧I64 x.n∧I64 x.for_∧I64 x.code∧x.key.size≤lim∧(x.recs.length≤c10∧Sl recT Γ A10 x.recs)∧(x.vec.length≤c11∧Sl intT Γ A11 x.vec)∧(x.path.length≤c12∧Sl intT Γ A12 x.path)∧(x.hashes.length≤c13∧Sl u64T Γ A13 x.hashes)∧(x.route.length≤c14∧Sl intT Γ A14 x.route)
abbrev ae.cs(A10:Option Addr)(c10:Nat)(A11:Option Addr)(c11:Nat)(A12:Option Addr)(c12:Nat)(A13:Option Addr)(c13:Nat)(A14:Option Addr)(c14:Nat)(x:ae):List Value:=[.int .i64 x.kind,.int .i64 x.from_.site,.int .i64 x.from_.node,.int .i64 x.to_.site,.int .i64 x.to_.node,.int .i64 x.id,.int .i64 x.n,.int .i64 x.for_,.int .i64 x.code,.string x.key,.slice A10 x.recs.length c10,.slice A11 x.vec.length c11,.slice A12 x.path.length c12,.slice A13 x.hashes.length c13,.slice A14 x.route.length c14]
theorem ae.fits_mono{Γ Δ:Gh}{A10:Option Addr}{c10:Nat}{A11:Option Addr}{c11:Nat}{A12:Option Addr}{c12:Nat}{A13:Option Addr}{c13:Nat}{A14:Option Addr}{c14:Nat}{x:ae}(h:ae.fits Γ A10 c10 A11 c11 A12 c12 A13 c13 A14 c14 x)(hs:Γ.le Δ):ae.fits Δ A10 c10 A11 c11 A12 c12 A13 c13 A14 c14 x:=by
 obtain⟨h0,h1,h2,h3,h4,h5,h6,h7,h8,h9,h10,h11,h12,h13,h14⟩:=h
 exact⟨h0,h1,h2,h3,h4,h5,h6,h7,h8,h9,⟨h10.1,h10.2.mono hs⟩,⟨h11.1,h11.2.mono hs⟩,⟨h12.1,h12.2.mono hs⟩,⟨h13.1,h13.2.mono hs⟩,⟨h14.1,h14.2.mono hs⟩⟩
def bd:Ty ae where
 n:=15
 pos:=by decide
 rd:=λΓ cs x => ∃A10 c10 A11 c11 A12 c12 A13 c13 A14 c14,cs=ae.cs A10 c10 A11 c11 A12 c12 A13 c13 A14 c14 x∧ae.fits Γ A10 c10 A11 c11 A12 c12 A13 c13 A14 c14 x
 len:=by rintro Γ cs x ⟨A10,c10,A11,c11,A12,c12,A13,c13,A14,c14,rfl,h⟩; rfl
 one:=by rintro Γ cs x ⟨A10,c10,A11,c11,A12,c12,A13,c13,A14,c14,rfl,h⟩ u hu; simp only [ae.cs,DX,List.not_mem_nil,or_false] at hu; rcases hu with rfl | rfl | rfl | rfl | rfl | rfl | rfl | rfl | rfl | rfl | rfl | rfl | rfl | rfl | rfl <;> rfl
 mono:=by rintro Γ Δ cs x ⟨A10,c10,A11,c11,A12,c12,A13,c13,A14,c14,rfl,h⟩ hs; exact⟨A10,c10,A11,c11,A12,c12,A13,c13,A14,c14,rfl,ae.fits_mono h hs⟩
theorem Sl.dapi_MsgT_at{Γ:Gh}{A:Option Addr}{xs:List ae}(h:Sl bd Γ A xs)(i:Nat):∃A10 c10 A11 c11 A12 c12 A13 c13 A14 c14,i<xs.length→ae.fits Γ A10 c10 A11 c11 A12 c12 A13 c13 A14 c14 (gt xs i)∧eQ Γ A (i*15) (ae.cs A10 c10 A11 c11 A12 c12 A13 c13 A14 c14 (gt xs i)):=by
 by_cases hi:i<xs.length
 ·obtain⟨cs,⟨A10,c10,A11,c11,A12,c12,A13,c13,A14,c14,rfl,h⟩,h2⟩:=h.get i hi
  exact⟨A10,c10,A11,c11,A12,c12,A13,c13,A14,c14,λ_=>⟨h,h2⟩⟩
 ·exact⟨none,0,none,0,none,0,none,0,none,0,λh=>absurd h hi⟩
theorem Own.dapi_MsgT_at{Γ:Gh}{A:Option Addr}{xs:List ae}{e c:Nat}{row:Rowb}(h:Own bd Γ e row A c xs)(i:Nat):∃A10 c10 A11 c11 A12 c12 A13 c13 A14 c14,i<xs.length→ae.fits Γ A10 c10 A11 c11 A12 c12 A13 c13 A14 c14 (gt xs i)∧k5 row A (i*15) (ae.cs A10 c10 A11 c11 A12 c12 A13 c13 A14 c14 (gt xs i)):=by
 by_cases hi:i<xs.length
 ·obtain⟨cs,⟨A10,c10,A11,c11,A12,c12,A13,c13,A14,c14,rfl,h⟩,h2⟩:=h.get hi
  exact⟨A10,c10,A11,c11,A12,c12,A13,c13,A14,c14,λ_=>⟨h,h2⟩⟩
 ·exact⟨none,0,none,0,none,0,none,0,none,0,λh=>absurd h hi⟩
structure ei where
 path:(List Int)
 hashes:(List Int)
 recs:(List Rec)
 deriving Inhabited,DecidableEq
def ei.bk(v:ei):Nat:=1+(bkL dg) v.path+(bkL dg) v.hashes+(bkL Rec.bk) v.recs
abbrev ei.fits(Γ:Gh)(A0:Option Addr)(c0:Nat)(A1:Option Addr)(c1:Nat)(A2:Option Addr)(c2:Nat)(x:ei):Prop:=(x.path.length≤c0∧Sl intT Γ A0 x.path)∧(x.hashes.length≤c1∧Sl u64T Γ A1 x.hashes)∧(x.recs.length≤c2∧Sl recT Γ A2 x.recs)
abbrev ei.cs(A0:Option Addr)(c0:Nat)(A1:Option Addr)(c1:Nat)(A2:Option Addr)(c2:Nat)(x:ei):List Value:=[.slice A0 x.path.length c0,.slice A1 x.hashes.length c1,.slice A2 x.recs.length c2]
theorem ei.fits_mono{Γ Δ:Gh}{A0:Option Addr}{c0:Nat}{A1:Option Addr}{c1:Nat}{A2:Option Addr}{c2:Nat}{x:ei}(h:ei.fits Γ A0 c0 A1 c1 A2 c2 x)(hs:Γ.le Δ):ei.fits Δ A0 c0 A1 c1 A2 c2 x:=by
 obtain⟨h0,h1,h2⟩:=h
 exact⟨⟨h0.1,h0.2.mono hs⟩,⟨h1.1,h1.2.mono hs⟩,⟨h2.1,h2.2.mono hs⟩⟩
structure cI where
 b:(List UInt8)
 at_:Int
 deriving Inhabited,DecidableEq
def cI.bk(v:cI):Nat:=1+(bkL dg) v.b+dg v.at_
abbrev cI.fits(Γ:Gh)(A0:Option Addr)(c0:Nat)(x:cI):Prop:=(x.b.length≤c0∧Sl au Γ A0 x.b)∧I64 x.at_
abbrev cI.cs(A0:Option Addr)(c0:Nat)(x:cI):List Value:=[.slice A0 x.b.length c0,.int .i64 x.at_]
theorem cI.fits_mono{Γ Δ:Gh}{A0:Option Addr}{c0:Nat}{x:cI}(h:cI.fits Γ A0 c0 x)(hs:Γ.le Δ):cI.fits Δ A0 c0 x:=by
 obtain⟨h0,h1⟩:=h
 exact⟨⟨h0.1,h0.2.mono hs⟩,h1⟩
structure cJ where
 b:(List UInt8)
 deriving Inhabited,DecidableEq
def cJ.bk(v:cJ):Nat:=1+(bkL dg) v.b
abbrev cJ.fits(Γ:Gh)(A0:Option Addr)(c0:Nat)(x:cJ):Prop:=(x.b.length≤c0∧Sl au Γ A0 x.b)
abbrev cJ.cs(A0:Option Addr)(c0:Nat)(x:cJ):List Value:=[.slice A0 x.b.length c0]
theorem cJ.fits_mono{Γ Δ:Gh}{A0:Option Addr}{c0:Nat}{x:cJ}(h:cJ.fits Γ A0 c0 x)(hs:Γ.le Δ):cJ.fits Δ A0 c0 x:=by
 have h0:=h
 exact⟨h0.1,h0.2.mono hs⟩
inductive aj where
 | disk_Disk_Cut_1 (a0:ByteArray) (a1:Int)
 | disk_Disk_Remove_1 (a0:ByteArray)
 | disk_add_1 (a0:ByteArray) (a1:(List UInt8))
 deriving Inhabited,DecidableEq
def aj.fid:aj→FuncId
 | .disk_Disk_Cut_1 _ _=>142
 | .disk_Disk_Remove_1 _=>148
 | .disk_add_1 _ _=>172
def aj.caps:aj→Option Addr→Nat→Array Value
 | .disk_Disk_Cut_1 _ _,A,c=>#[.pointer (some ⟨c,0,none⟩),.pointer A]
 | .disk_Disk_Remove_1 _,A,c=>#[.pointer (some ⟨c,0,none⟩)]
 | .disk_add_1 _ _,A,c=>#[.pointer (some ⟨c,0,none⟩),.pointer A]
def aj.val(x:aj)(A:Option Addr)(c:Nat):Value:=.func (.func (aj.fid x)) #[] (aj.caps x A c)
theorem aj.val_one(x:aj)(A:Option Addr)(c:Nat):(aj.val x A c).oneCell'=true:=rfl
def aj.ok(Γ:Gh)(A:Option Addr)(c:Nat):aj→Prop
 | .disk_Disk_Cut_1 a0 a1=>(Γ c=some (.cells #[.string a0] 9 (0,0))∧a0.size≤lim)∧(∃(g1:Nat),A=some ⟨g1,0,none⟩∧Γ g1=some (.cells #[.int .i64 a1] 3 (0,0))∧I64 a1)∧True
 | .disk_Disk_Remove_1 a0=>(Γ c=some (.cells #[.string a0] 9 (0,0))∧a0.size≤lim)∧True
 | .disk_add_1 a0 a1=>(Γ c=some (.cells #[.string a0] 9 (0,0))∧a0.size≤lim)∧(∃(g1:Nat) (A1_0:Option Addr) (c1_0:Nat),A=some ⟨g1,0,none⟩∧Γ g1=some (.cells #[.slice A1_0 a1.length c1_0] 89 (0,0))∧a1.length≤c1_0∧Sl au Γ A1_0 a1)∧True
theorem aj.ok.mono{Γ Δ:Gh}{A:Option Addr}{c:Nat}:∀{x:aj},aj.ok Γ A c x→Γ.le Δ→aj.ok Δ A c x:=by
 intro x h hs; revert h; exact match x with
 | .disk_Disk_Cut_1 _ _=>λ⟨⟨h0_0,h0_1⟩,⟨g1,h1_0,h1_1,h1_2⟩,_⟩=>⟨⟨hs _ _ h0_0,h0_1⟩,⟨g1,h1_0,hs _ _ h1_1,h1_2⟩,trivial⟩
 | .disk_Disk_Remove_1 _=>λ⟨⟨h0_0,h0_1⟩,_⟩=>⟨⟨hs _ _ h0_0,h0_1⟩,trivial⟩
 | .disk_add_1 _ _=>λ⟨⟨h0_0,h0_1⟩,⟨g1,A1_0,c1_0,h1_0,h1_1,h1_2,h1_3⟩,_⟩=>⟨⟨hs _ _ h0_0,h0_1⟩,⟨g1,A1_0,c1_0,h1_0,hs _ _ h1_1,h1_2,h1_3.mono hs⟩,trivial⟩
structure az where
 do_:aj
 name:ByteArray
 tail:(List UInt8)
 deriving Inhabited,DecidableEq
def az.bk(v:az):Nat:=1+dg v.do_+rz v.name+(bkL dg) v.tail
abbrev az.fits(Γ:Gh)(A0:Option Addr)(c0:Nat)(A2:Option Addr)(c2:Nat)(x:az):Prop:=aj.ok Γ A0 c0 x.do_∧x.name.size≤lim∧(x.tail.length≤c2∧Sl au Γ A2 x.tail)
abbrev az.cs(A0:Option Addr)(c0:Nat)(A2:Option Addr)(c2:Nat)(x:az):List Value:=[aj.val x.do_ A0 c0,.string x.name,.slice A2 x.tail.length c2]
theorem az.fits_mono{Γ Δ:Gh}{A0:Option Addr}{c0:Nat}{A2:Option Addr}{c2:Nat}{x:az}(h:az.fits Γ A0 c0 A2 c2 x)(hs:Γ.le Δ):az.fits Δ A0 c0 A2 c2 x:=by
 obtain⟨h0,h1,h2⟩:=h
 exact⟨aj.ok.mono h0 hs,h1,⟨h2.1,h2.2.mono hs⟩⟩
def jb:Ty az where
 n:=3
 pos:=by decide
 rd:=λΓ cs x => ∃A0 c0 A2 c2,cs=az.cs A0 c0 A2 c2 x∧az.fits Γ A0 c0 A2 c2 x
 len:=by rintro Γ cs x ⟨A0,c0,A2,c2,rfl,h⟩; rfl
 one:=by rintro Γ cs x ⟨A0,c0,A2,c2,rfl,h⟩ u hu; simp only [az.cs,DX,List.not_mem_nil,or_false] at hu; rcases hu with rfl | rfl | rfl <;> first | rfl | exact aj.val_one _ _ _
 mono:=by rintro Γ Δ cs x ⟨A0,c0,A2,c2,rfl,h⟩ hs; exact⟨A0,c0,A2,c2,rfl,az.fits_mono h hs⟩
end Fw
end Go.Proofs.YtgaplodcdhhefaaGreat
