/- The data types of the program, as Lean structures, and what they are in memory. No condition. -/
import Derived.Test.YtmafjpdiplfcmaaGreatK10
namespace Go.Proofs.YtmafjpdiplfcmaaGreat
namespace Fw
set_option linter.unusedVariables false
set_option linter.unusedSimpArgs false
set_option linter.unusedSectionVars false
open Go.RowKit
structure bn where
 x_:Int
 y:Int
 signed:Bool
 code:UInt8
 deriving Inhabited,DecidableEq
def bn.bk(v:bn):Nat:=1+dk v.x_+dk v.y+dk v.signed+dk v.code
abbrev bn.fits(Γ:Gh)(x:bn):Prop:=I64 x.x_∧I64 x.y
abbrev bn.cs(x:bn):List Value:=[.int .i64 x.x_,.int .i64 x.y,.bool x.signed,.int .u8 (x.code.toNat:Int)]
theorem bn.fits_mono{Γ Δ:Gh}{x:bn}(h:bn.fits Γ  x)(hs:Γ.le Δ):bn.fits Δ  x:=by
 exact h
structure aP where
 msg:ByteArray
 addr:Int
 deriving Inhabited,DecidableEq
def aP.bk(v:aP):Nat:=1+oF v.msg+dk v.addr
abbrev aP.fits(Γ:Gh)(x:aP):Prop:=x.msg.size≤lim∧U64 x.addr
abbrev aP.cs(x:aP):List Value:=[.string x.msg,.int .u64 x.addr]
theorem aP.fits_mono{Γ Δ:Gh}{x:aP}(h:aP.fits Γ  x)(hs:Γ.le Δ):aP.fits Δ  x:=by
 exact h
structure Dot where
 s:Int
 n:Int
 deriving Inhabited,DecidableEq
def Dot.bk(v:Dot):Nat:=1+dk v.s+dk v.n
abbrev Dot.fits(Γ:Gh)(x:Dot):Prop:=I64 x.s∧I64 x.n
abbrev Dot.cs(x:Dot):List Value:=[.int .i64 x.s,.int .i64 x.n]
theorem Dot.fits_mono{Γ Δ:Gh}{x:Dot}(h:Dot.fits Γ  x)(hs:Γ.le Δ):Dot.fits Δ  x:=by
 exact h
def dotT:Ty Dot where
 n:=2
 pos:=by decide
 rd:=λΓ cs x=>cs=Dot.cs  x∧Dot.fits Γ  x
 len:=by rintro Γ cs x ⟨rfl,h⟩; rfl
 one:=by rintro Γ cs x ⟨rfl,h⟩ u hu; simp only [Dot.cs,Ix,List.not_mem_nil,or_false] at hu; rcases hu with rfl | rfl <;> rfl
 mono:=by rintro Γ Δ cs x ⟨rfl,h⟩ hs; exact⟨rfl,Dot.fits_mono h hs⟩
structure Span where
 s:Int
 f:Int
 t:Int
 deriving Inhabited,DecidableEq
def Span.bk(v:Span):Nat:=1+dk v.s+dk v.f+dk v.t
abbrev Span.fits(Γ:Gh)(x:Span):Prop:=I64 x.s∧I64 x.f∧I64 x.t
abbrev Span.cs(x:Span):List Value:=[.int .i64 x.s,.int .i64 x.f,.int .i64 x.t]
theorem Span.fits_mono{Γ Δ:Gh}{x:Span}(h:Span.fits Γ  x)(hs:Γ.le Δ):Span.fits Δ  x:=by
 exact h
def gS:Ty Span where
 n:=3
 pos:=by decide
 rd:=λΓ cs x=>cs=Span.cs  x∧Span.fits Γ  x
 len:=by rintro Γ cs x ⟨rfl,h⟩; rfl
 one:=by rintro Γ cs x ⟨rfl,h⟩ u hu; simp only [Span.cs,Ix,List.not_mem_nil,or_false] at hu; rcases hu with rfl | rfl | rfl <;> rfl
 mono:=by rintro Γ Δ cs x ⟨rfl,h⟩ hs; exact⟨rfl,Span.fits_mono h hs⟩
theorem Sl.spanT_at{Γ:Gh}{A:Option Addr}{xs:List Span}{i:Nat}(h:Sl gS Γ A xs)(hi:i<xs.length):Span.fits Γ (gt xs i)∧kQ Γ A (i*3) (Span.cs (gt xs i)):=by
 obtain⟨cs,⟨rfl,h1⟩,h2⟩:=h.get i hi
 exact⟨h1,h2⟩
theorem Own.spanT_at{Γ:Gh}{A:Option Addr}{xs:List Span}{e c:Nat}{row:Rowb}{i:Nat}(h:Own gS Γ e row A c xs)(hi:i<xs.length):Span.fits Γ (gt xs i)∧lu row A (i*3) (Span.cs (gt xs i)):=by
 obtain⟨cs,⟨rfl,h1⟩,h2⟩:=h.get hi
 exact⟨h1,h2⟩
structure Ver where
 dot:Dot
 past:(List Span)
 gone:Bool
 val:ByteArray
 deriving Inhabited,DecidableEq
def Ver.bk(v:Ver):Nat:=1+Dot.bk v.dot+(bkL Span.bk) v.past+dk v.gone+oF v.val
abbrev Ver.fits(Γ:Gh)(A2:Option Addr)(c2:Nat)(x:Ver):Prop:=I64 x.dot.s∧I64 x.dot.n∧(x.past.length≤c2∧Sl gS Γ A2 x.past)∧x.val.size≤lim
abbrev Ver.cs(A2:Option Addr)(c2:Nat)(x:Ver):List Value:=[.int .i64 x.dot.s,.int .i64 x.dot.n,.slice A2 x.past.length c2,.bool x.gone,.string x.val]
theorem Ver.fits_mono{Γ Δ:Gh}{A2:Option Addr}{c2:Nat}{x:Ver}(h:Ver.fits Γ A2 c2 x)(hs:Γ.le Δ):Ver.fits Δ A2 c2 x:=by
 obtain⟨h0,h1,h2,h3⟩:=h
 exact⟨h0,h1,⟨h2.1,h2.2.mono hs⟩,h3⟩
def verT:Ty Ver where
 n:=5
 pos:=by decide
 rd:=λΓ cs x => ∃A2 c2,cs=Ver.cs A2 c2 x∧Ver.fits Γ A2 c2 x
 len:=by rintro Γ cs x ⟨A2,c2,rfl,h⟩; rfl
 one:=by rintro Γ cs x ⟨A2,c2,rfl,h⟩ u hu; simp only [Ver.cs,Ix,List.not_mem_nil,or_false] at hu; rcases hu with rfl | rfl | rfl | rfl | rfl <;> rfl
 mono:=by rintro Γ Δ cs x ⟨A2,c2,rfl,h⟩ hs; exact⟨A2,c2,rfl,Ver.fits_mono h hs⟩
theorem Sl.verT_at{Γ:Gh}{A:Option Addr}{xs:List Ver}(h:Sl verT Γ A xs)(i:Nat):∃A2 c2,i<xs.length→Ver.fits Γ A2 c2 (gt xs i)∧kQ Γ A (i*5) (Ver.cs A2 c2 (gt xs i)):=by
 by_cases hi:i<xs.length
 ·obtain⟨cs,⟨A2,c2,rfl,h⟩,h2⟩:=h.get i hi
  exact⟨A2,c2,λ_=>⟨h,h2⟩⟩
 ·exact⟨none,0,λh=>absurd h hi⟩
theorem Own.verT_at{Γ:Gh}{A:Option Addr}{xs:List Ver}{e c:Nat}{row:Rowb}(h:Own verT Γ e row A c xs)(i:Nat):∃A2 c2,i<xs.length→Ver.fits Γ A2 c2 (gt xs i)∧lu row A (i*5) (Ver.cs A2 c2 (gt xs i)):=by
 by_cases hi:i<xs.length
 ·obtain⟨cs,⟨A2,c2,rfl,h⟩,h2⟩:=h.get hi
  exact⟨A2,c2,λ_=>⟨h,h2⟩⟩
 ·exact⟨none,0,λh=>absurd h hi⟩
structure Rec where
 key:ByteArray
 vers:(List Ver)
 deriving Inhabited,DecidableEq
def Rec.bk(v:Rec):Nat:=1+oF v.key+(bkL Ver.bk) v.vers
abbrev Rec.fits(Γ:Gh)(A1:Option Addr)(c1:Nat)(x:Rec):Prop:=x.key.size≤lim∧(x.vers.length≤c1∧Sl verT Γ A1 x.vers)
abbrev Rec.cs(A1:Option Addr)(c1:Nat)(x:Rec):List Value:=[.string x.key,.slice A1 x.vers.length c1]
theorem Rec.fits_mono{Γ Δ:Gh}{A1:Option Addr}{c1:Nat}{x:Rec}(h:Rec.fits Γ A1 c1 x)(hs:Γ.le Δ):Rec.fits Δ A1 c1 x:=by
 obtain⟨h0,h1⟩:=h
 exact⟨h0,⟨h1.1,h1.2.mono hs⟩⟩
def recT:Ty Rec where
 n:=2
 pos:=by decide
 rd:=λΓ cs x => ∃A1 c1,cs=Rec.cs A1 c1 x∧Rec.fits Γ A1 c1 x
 len:=by rintro Γ cs x ⟨A1,c1,rfl,h⟩; rfl
 one:=by rintro Γ cs x ⟨A1,c1,rfl,h⟩ u hu; simp only [Rec.cs,Ix,List.not_mem_nil,or_false] at hu; rcases hu with rfl | rfl <;> rfl
 mono:=by rintro Γ Δ cs x ⟨A1,c1,rfl,h⟩ hs; exact⟨A1,c1,rfl,Rec.fits_mono h hs⟩
theorem Sl.recT_at{Γ:Gh}{A:Option Addr}{xs:List Rec}(h:Sl recT Γ A xs)(i:Nat):∃A1 c1,i<xs.length→Rec.fits Γ A1 c1 (gt xs i)∧kQ Γ A (i*2) (Rec.cs A1 c1 (gt xs i)):=by
 by_cases hi:i<xs.length
 ·obtain⟨cs,⟨A1,c1,rfl,h⟩,h2⟩:=h.get i hi
  exact⟨A1,c1,λ_=>⟨h,h2⟩⟩
 ·exact⟨none,0,λh=>absurd h hi⟩
theorem Own.recT_at{Γ:Gh}{A:Option Addr}{xs:List Rec}{e c:Nat}{row:Rowb}(h:Own recT Γ e row A c xs)(i:Nat):∃A1 c1,i<xs.length→Rec.fits Γ A1 c1 (gt xs i)∧lu row A (i*2) (Rec.cs A1 c1 (gt xs i)):=by
 by_cases hi:i<xs.length
 ·obtain⟨cs,⟨A1,c1,rfl,h⟩,h2⟩:=h.get hi
  exact⟨A1,c1,λ_=>⟨h,h2⟩⟩
 ·exact⟨none,0,λh=>absurd h hi⟩
structure au where
 kind:Int
 r:Rec
 floor:(List Int)
 data:(List UInt8)
 n:Int
 torn:Int
 deriving Inhabited,DecidableEq
def au.bk(v:au):Nat:=1+dk v.kind+Rec.bk v.r+(bkL dk) v.floor+(bkL dk) v.data+dk v.n+dk v.torn
abbrev au.fits(Γ:Gh)(A2:Option Addr)(c2:Nat)(A3:Option Addr)(c3:Nat)(A4:Option Addr)(c4:Nat)(x:au):Prop:=I64 x.kind∧x.r.key.size≤lim∧(x.r.vers.length≤c2∧Sl verT Γ A2 x.r.vers)∧(x.floor.length≤c3∧Sl intT Γ A3 x.floor)∧(x.data.length≤c4∧Sl av Γ A4 x.data)∧I64 x.n∧I64 x.torn
abbrev au.cs(A2:Option Addr)(c2:Nat)(A3:Option Addr)(c3:Nat)(A4:Option Addr)(c4:Nat)(x:au):List Value:=[.int .i64 x.kind,.string x.r.key,.slice A2 x.r.vers.length c2,.slice A3 x.floor.length c3,.slice A4 x.data.length c4,.int .i64 x.n,.int .i64 x.torn]
theorem au.fits_mono{Γ Δ:Gh}{A2:Option Addr}{c2:Nat}{A3:Option Addr}{c3:Nat}{A4:Option Addr}{c4:Nat}{x:au}(h:au.fits Γ A2 c2 A3 c3 A4 c4 x)(hs:Γ.le Δ):au.fits Δ A2 c2 A3 c3 A4 c4 x:=by
 obtain⟨h0,h1,h2,h3,h4,h5,h6⟩:=h
 exact⟨h0,h1,⟨h2.1,h2.2.mono hs⟩,⟨h3.1,h3.2.mono hs⟩,⟨h4.1,h4.2.mono hs⟩,h5,h6⟩
def js:Ty au where
 n:=7
 pos:=by decide
 rd:=λΓ cs x => ∃A2 c2 A3 c3 A4 c4,cs=au.cs A2 c2 A3 c3 A4 c4 x∧au.fits Γ A2 c2 A3 c3 A4 c4 x
 len:=by rintro Γ cs x ⟨A2,c2,A3,c3,A4,c4,rfl,h⟩; rfl
 one:=by rintro Γ cs x ⟨A2,c2,A3,c3,A4,c4,rfl,h⟩ u hu; simp only [au.cs,Ix,List.not_mem_nil,or_false] at hu; rcases hu with rfl | rfl | rfl | rfl | rfl | rfl | rfl <;> rfl
 mono:=by rintro Γ Δ cs x ⟨A2,c2,A3,c3,A4,c4,rfl,h⟩ hs; exact⟨A2,c2,A3,c3,A4,c4,rfl,au.fits_mono h hs⟩
theorem Sl.dfirthlaw10_OpT_at{Γ:Gh}{A:Option Addr}{xs:List au}(h:Sl js Γ A xs)(i:Nat):∃A2 c2 A3 c3 A4 c4,i<xs.length→au.fits Γ A2 c2 A3 c3 A4 c4 (gt xs i)∧kQ Γ A (i*7) (au.cs A2 c2 A3 c3 A4 c4 (gt xs i)):=by
 by_cases hi:i<xs.length
 ·obtain⟨cs,⟨A2,c2,A3,c3,A4,c4,rfl,h⟩,h2⟩:=h.get i hi
  exact⟨A2,c2,A3,c3,A4,c4,λ_=>⟨h,h2⟩⟩
 ·exact⟨none,0,none,0,none,0,λh=>absurd h hi⟩
theorem Own.dfirthlaw10_OpT_at{Γ:Gh}{A:Option Addr}{xs:List au}{e c:Nat}{row:Rowb}(h:Own js Γ e row A c xs)(i:Nat):∃A2 c2 A3 c3 A4 c4,i<xs.length→au.fits Γ A2 c2 A3 c3 A4 c4 (gt xs i)∧lu row A (i*7) (au.cs A2 c2 A3 c3 A4 c4 (gt xs i)):=by
 by_cases hi:i<xs.length
 ·obtain⟨cs,⟨A2,c2,A3,c3,A4,c4,rfl,h⟩,h2⟩:=h.get hi
  exact⟨A2,c2,A3,c3,A4,c4,λ_=>⟨h,h2⟩⟩
 ·exact⟨none,0,none,0,none,0,λh=>absurd h hi⟩
structure ab where
 name:ByteArray
 data:(List UInt8)
 deriving Inhabited,DecidableEq
def ab.bk(v:ab):Nat:=1+oF v.name+(bkL dk) v.data
abbrev ab.fits(Γ:Gh)(A1:Option Addr)(c1:Nat)(x:ab):Prop:=x.name.size≤lim∧(x.data.length≤c1∧Sl av Γ A1 x.data)
abbrev ab.cs(A1:Option Addr)(c1:Nat)(x:ab):List Value:=[.string x.name,.slice A1 x.data.length c1]
theorem ab.fits_mono{Γ Δ:Gh}{A1:Option Addr}{c1:Nat}{x:ab}(h:ab.fits Γ A1 c1 x)(hs:Γ.le Δ):ab.fits Δ A1 c1 x:=by
 obtain⟨h0,h1⟩:=h
 exact⟨h0,⟨h1.1,h1.2.mono hs⟩⟩
def aA:Ty ab where
 n:=2
 pos:=by decide
 rd:=λΓ cs x => ∃A1 c1,cs=ab.cs A1 c1 x∧ab.fits Γ A1 c1 x
 len:=by rintro Γ cs x ⟨A1,c1,rfl,h⟩; rfl
 one:=by rintro Γ cs x ⟨A1,c1,rfl,h⟩ u hu; simp only [ab.cs,Ix,List.not_mem_nil,or_false] at hu; rcases hu with rfl | rfl <;> rfl
 mono:=by rintro Γ Δ cs x ⟨A1,c1,rfl,h⟩ hs; exact⟨A1,c1,rfl,ab.fits_mono h hs⟩
theorem Sl.dfirthref07_FileT_at{Γ:Gh}{A:Option Addr}{xs:List ab}(h:Sl aA Γ A xs)(i:Nat):∃A1 c1,i<xs.length→ab.fits Γ A1 c1 (gt xs i)∧kQ Γ A (i*2) (ab.cs A1 c1 (gt xs i)):=by
 by_cases hi:i<xs.length
 ·obtain⟨cs,⟨A1,c1,rfl,h⟩,h2⟩:=h.get i hi
  exact⟨A1,c1,λ_=>⟨h,h2⟩⟩
 ·exact⟨none,0,λh=>absurd h hi⟩
theorem Own.dfirthref07_FileT_at{Γ:Gh}{A:Option Addr}{xs:List ab}{e c:Nat}{row:Rowb}(h:Own aA Γ e row A c xs)(i:Nat):∃A1 c1,i<xs.length→ab.fits Γ A1 c1 (gt xs i)∧lu row A (i*2) (ab.cs A1 c1 (gt xs i)):=by
 by_cases hi:i<xs.length
 ·obtain⟨cs,⟨A1,c1,rfl,h⟩,h2⟩:=h.get hi
  exact⟨A1,c1,λ_=>⟨h,h2⟩⟩
 ·exact⟨none,0,λh=>absurd h hi⟩
structure ak where
 kind:Int
 name:ByteArray
 to_:ByteArray
 data:(List UInt8)
 n:Int
 deriving Inhabited,DecidableEq
def ak.bk(v:ak):Nat:=1+dk v.kind+oF v.name+oF v.to_+(bkL dk) v.data+dk v.n
abbrev ak.fits(Γ:Gh)(A3:Option Addr)(c3:Nat)(x:ak):Prop:=I64 x.kind∧x.name.size≤lim∧x.to_.size≤lim∧(x.data.length≤c3∧Sl av Γ A3 x.data)∧I64 x.n
abbrev ak.cs(A3:Option Addr)(c3:Nat)(x:ak):List Value:=[.int .i64 x.kind,.string x.name,.string x.to_,.slice A3 x.data.length c3,.int .i64 x.n]
theorem ak.fits_mono{Γ Δ:Gh}{A3:Option Addr}{c3:Nat}{x:ak}(h:ak.fits Γ A3 c3 x)(hs:Γ.le Δ):ak.fits Δ A3 c3 x:=by
 obtain⟨h0,h1,h2,h3,h4⟩:=h
 exact⟨h0,h1,h2,⟨h3.1,h3.2.mono hs⟩,h4⟩
def cv:Ty ak where
 n:=5
 pos:=by decide
 rd:=λΓ cs x => ∃A3 c3,cs=ak.cs A3 c3 x∧ak.fits Γ A3 c3 x
 len:=by rintro Γ cs x ⟨A3,c3,rfl,h⟩; rfl
 one:=by rintro Γ cs x ⟨A3,c3,rfl,h⟩ u hu; simp only [ak.cs,Ix,List.not_mem_nil,or_false] at hu; rcases hu with rfl | rfl | rfl | rfl | rfl <;> rfl
 mono:=by rintro Γ Δ cs x ⟨A3,c3,rfl,h⟩ hs; exact⟨A3,c3,rfl,ak.fits_mono h hs⟩
theorem Sl.dfirthref07_ChangeT_at{Γ:Gh}{A:Option Addr}{xs:List ak}(h:Sl cv Γ A xs)(i:Nat):∃A3 c3,i<xs.length→ak.fits Γ A3 c3 (gt xs i)∧kQ Γ A (i*5) (ak.cs A3 c3 (gt xs i)):=by
 by_cases hi:i<xs.length
 ·obtain⟨cs,⟨A3,c3,rfl,h⟩,h2⟩:=h.get i hi
  exact⟨A3,c3,λ_=>⟨h,h2⟩⟩
 ·exact⟨none,0,λh=>absurd h hi⟩
theorem Own.dfirthref07_ChangeT_at{Γ:Gh}{A:Option Addr}{xs:List ak}{e c:Nat}{row:Rowb}(h:Own cv Γ e row A c xs)(i:Nat):∃A3 c3,i<xs.length→ak.fits Γ A3 c3 (gt xs i)∧lu row A (i*5) (ak.cs A3 c3 (gt xs i)):=by
 by_cases hi:i<xs.length
 ·obtain⟨cs,⟨A3,c3,rfl,h⟩,h2⟩:=h.get hi
  exact⟨A3,c3,λ_=>⟨h,h2⟩⟩
 ·exact⟨none,0,λh=>absurd h hi⟩
structure cp where
 room:Int
 safe_:(List ab)
 todo:(List ak)
 deriving Inhabited,DecidableEq
def cp.bk(v:cp):Nat:=1+dk v.room+(bkL ab.bk) v.safe_+(bkL ak.bk) v.todo
abbrev cp.fits(Γ:Gh)(A1:Option Addr)(c1:Nat)(A2:Option Addr)(c2:Nat)(x:cp):Prop:=I64 x.room∧(x.safe_.length≤c1∧Sl aA Γ A1 x.safe_)∧(x.todo.length≤c2∧Sl cv Γ A2 x.todo)
abbrev cp.cs(A1:Option Addr)(c1:Nat)(A2:Option Addr)(c2:Nat)(x:cp):List Value:=[.int .i64 x.room,.slice A1 x.safe_.length c1,.slice A2 x.todo.length c2]
theorem cp.fits_mono{Γ Δ:Gh}{A1:Option Addr}{c1:Nat}{A2:Option Addr}{c2:Nat}{x:cp}(h:cp.fits Γ A1 c1 A2 c2 x)(hs:Γ.le Δ):cp.fits Δ A1 c1 A2 c2 x:=by
 obtain⟨h0,h1,h2⟩:=h
 exact⟨h0,⟨h1.1,h1.2.mono hs⟩,⟨h2.1,h2.2.mono hs⟩⟩
inductive aq where
 | disk_add_1 (a0:ByteArray) (a1:(List UInt8))
 | disk_Disk_Cut_1 (a0:ByteArray) (a1:Int)
 | disk_Disk_Remove_1 (a0:ByteArray)
 deriving Inhabited,DecidableEq
def aq.fid:aq→FuncId
 | .disk_add_1 _ _=>99
 | .disk_Disk_Cut_1 _ _=>154
 | .disk_Disk_Remove_1 _=>159
def aq.caps:aq→Option Addr→Nat→Array Value
 | .disk_add_1 _ _,A,c=>#[.pointer (some ⟨c,0,none⟩),.pointer A]
 | .disk_Disk_Cut_1 _ _,A,c=>#[.pointer (some ⟨c,0,none⟩),.pointer A]
 | .disk_Disk_Remove_1 _,A,c=>#[.pointer (some ⟨c,0,none⟩)]
def aq.val(x:aq)(A:Option Addr)(c:Nat):Value:=.func (.func (aq.fid x)) #[] (aq.caps x A c)
theorem aq.val_one(x:aq)(A:Option Addr)(c:Nat):(aq.val x A c).oneCell'=true:=rfl
def aq.ok(Γ:Gh)(A:Option Addr)(c:Nat):aq→Prop
 | .disk_add_1 a0 a1=>(Γ c=some (.cells #[.string a0] 9 (0,0))∧a0.size≤lim)∧(∃(g1:Nat) (A1_0:Option Addr) (c1_0:Nat),A=some ⟨g1,0,none⟩∧Γ g1=some (.cells #[.slice A1_0 a1.length c1_0] 51 (0,0))∧a1.length≤c1_0∧Sl av Γ A1_0 a1)∧True
 | .disk_Disk_Cut_1 a0 a1=>(Γ c=some (.cells #[.string a0] 9 (0,0))∧a0.size≤lim)∧(∃(g1:Nat),A=some ⟨g1,0,none⟩∧Γ g1=some (.cells #[.int .i64 a1] 3 (0,0))∧I64 a1)∧True
 | .disk_Disk_Remove_1 a0=>(Γ c=some (.cells #[.string a0] 9 (0,0))∧a0.size≤lim)∧True
theorem aq.ok.mono{Γ Δ:Gh}{A:Option Addr}{c:Nat}:∀{x:aq},aq.ok Γ A c x→Γ.le Δ→aq.ok Δ A c x:=by
 intro x h hs; revert h; exact match x with
 | .disk_add_1 _ _=>λ⟨⟨h0_0,h0_1⟩,⟨g1,A1_0,c1_0,h1_0,h1_1,h1_2,h1_3⟩,_⟩=>⟨⟨hs _ _ h0_0,h0_1⟩,⟨g1,A1_0,c1_0,h1_0,hs _ _ h1_1,h1_2,h1_3.mono hs⟩,trivial⟩
 | .disk_Disk_Cut_1 _ _=>λ⟨⟨h0_0,h0_1⟩,⟨g1,h1_0,h1_1,h1_2⟩,_⟩=>⟨⟨hs _ _ h0_0,h0_1⟩,⟨g1,h1_0,hs _ _ h1_1,h1_2⟩,trivial⟩
 | .disk_Disk_Remove_1 _=>λ⟨⟨h0_0,h0_1⟩,_⟩=>⟨⟨hs _ _ h0_0,h0_1⟩,trivial⟩
structure aE where
 do_:aq
 name:ByteArray
 tail:(List UInt8)
 deriving Inhabited,DecidableEq
def aE.bk(v:aE):Nat:=1+dk v.do_+oF v.name+(bkL dk) v.tail
abbrev aE.fits(Γ:Gh)(A0:Option Addr)(c0:Nat)(A2:Option Addr)(c2:Nat)(x:aE):Prop:=aq.ok Γ A0 c0 x.do_∧x.name.size≤lim∧(x.tail.length≤c2∧Sl av Γ A2 x.tail)
abbrev aE.cs(A0:Option Addr)(c0:Nat)(A2:Option Addr)(c2:Nat)(x:aE):List Value:=[aq.val x.do_ A0 c0,.string x.name,.slice A2 x.tail.length c2]
theorem aE.fits_mono{Γ Δ:Gh}{A0:Option Addr}{c0:Nat}{A2:Option Addr}{c2:Nat}{x:aE}(h:aE.fits Γ A0 c0 A2 c2 x)(hs:Γ.le Δ):aE.fits Δ A0 c0 A2 c2 x:=by
 obtain⟨h0,h1,h2⟩:=h
 exact⟨aq.ok.mono h0 hs,h1,⟨h2.1,h2.2.mono hs⟩⟩
def iz:Ty aE where
 n:=3
 pos:=by decide
 rd:=λΓ cs x => ∃A0 c0 A2 c2,cs=aE.cs A0 c0 A2 c2 x∧aE.fits Γ A0 c0 A2 c2 x
 len:=by rintro Γ cs x ⟨A0,c0,A2,c2,rfl,h⟩; rfl
 one:=by rintro Γ cs x ⟨A0,c0,A2,c2,rfl,h⟩ u hu; simp only [aE.cs,Ix,List.not_mem_nil,or_false] at hu; rcases hu with rfl | rfl | rfl <;> first | rfl | exact aq.val_one _ _ _
 mono:=by rintro Γ Δ cs x ⟨A0,c0,A2,c2,rfl,h⟩ hs; exact⟨A0,c0,A2,c2,rfl,aE.fits_mono h hs⟩
theorem Sl.ddisk_changeT_at{Γ:Gh}{A:Option Addr}{xs:List aE}(h:Sl iz Γ A xs)(i:Nat):∃A0 c0 A2 c2,i<xs.length→aE.fits Γ A0 c0 A2 c2 (gt xs i)∧kQ Γ A (i*3) (aE.cs A0 c0 A2 c2 (gt xs i)):=by
 by_cases hi:i<xs.length
 ·obtain⟨cs,⟨A0,c0,A2,c2,rfl,h⟩,h2⟩:=h.get i hi
  exact⟨A0,c0,A2,c2,λ_=>⟨h,h2⟩⟩
 ·exact⟨none,0,none,0,λh=>absurd h hi⟩
theorem Own.ddisk_changeT_at{Γ:Gh}{A:Option Addr}{xs:List aE}{e c:Nat}{row:Rowb}(h:Own iz Γ e row A c xs)(i:Nat):∃A0 c0 A2 c2,i<xs.length→aE.fits Γ A0 c0 A2 c2 (gt xs i)∧lu row A (i*3) (aE.cs A0 c0 A2 c2 (gt xs i)):=by
 by_cases hi:i<xs.length
 ·obtain⟨cs,⟨A0,c0,A2,c2,rfl,h⟩,h2⟩:=h.get hi
  exact⟨A0,c0,A2,c2,λ_=>⟨h,h2⟩⟩
 ·exact⟨none,0,none,0,λh=>absurd h hi⟩
structure eU where
 b:(List UInt8)
 deriving Inhabited,DecidableEq
def eU.bk(v:eU):Nat:=1+(bkL dk) v.b
abbrev eU.fits(Γ:Gh)(A0:Option Addr)(c0:Nat)(x:eU):Prop:=(x.b.length≤c0∧Sl av Γ A0 x.b)
abbrev eU.cs(A0:Option Addr)(c0:Nat)(x:eU):List Value:=[.slice A0 x.b.length c0]
theorem eU.fits_mono{Γ Δ:Gh}{A0:Option Addr}{c0:Nat}{x:eU}(h:eU.fits Γ A0 c0 x)(hs:Γ.le Δ):eU.fits Δ A0 c0 x:=by
 have h0:=h
 exact⟨h0.1,h0.2.mono hs⟩
structure ck where
 b:(List UInt8)
 at_:Int
 bad:Bool
 deriving Inhabited,DecidableEq
def ck.bk(v:ck):Nat:=1+(bkL dk) v.b+dk v.at_+dk v.bad
abbrev ck.fits(Γ:Gh)(A0:Option Addr)(c0:Nat)(x:ck):Prop:=(x.b.length≤c0∧Sl av Γ A0 x.b)∧I64 x.at_
abbrev ck.cs(A0:Option Addr)(c0:Nat)(x:ck):List Value:=[.slice A0 x.b.length c0,.int .i64 x.at_,.bool x.bad]
theorem ck.fits_mono{Γ Δ:Gh}{A0:Option Addr}{c0:Nat}{x:ck}(h:ck.fits Γ A0 c0 x)(hs:Γ.le Δ):ck.fits Δ A0 c0 x:=by
 obtain⟨h0,h1⟩:=h
 exact⟨⟨h0.1,h0.2.mono hs⟩,h1⟩
structure eV where
 b:(List UInt8)
 at_:Int
 deriving Inhabited,DecidableEq
def eV.bk(v:eV):Nat:=1+(bkL dk) v.b+dk v.at_
abbrev eV.fits(Γ:Gh)(A0:Option Addr)(c0:Nat)(x:eV):Prop:=(x.b.length≤c0∧Sl av Γ A0 x.b)∧I64 x.at_
abbrev eV.cs(A0:Option Addr)(c0:Nat)(x:eV):List Value:=[.slice A0 x.b.length c0,.int .i64 x.at_]
theorem eV.fits_mono{Γ Δ:Gh}{A0:Option Addr}{c0:Nat}{x:eV}(h:eV.fits Γ A0 c0 x)(hs:Γ.le Δ):eV.fits Δ A0 c0 x:=by
 obtain⟨h0,h1⟩:=h
 exact⟨⟨h0.1,h0.2.mono hs⟩,h1⟩
end Fw
end Go.Proofs.YtmafjpdiplfcmaaGreat
