/- The data types of the program, as Lean structures, and what they are in memory. No condition. -/
import Derived.Test.YtangaamigenjjaaGreatK10
namespace Go.Proofs.YtangaamigenjjaaGreat
namespace Fw
set_option linter.unusedVariables false
set_option linter.unusedSimpArgs false
set_option linter.unusedSectionVars false
open Go.RowKit
structure bc where
 x_:Int
 y:Int
 signed:Bool
 code:UInt8
 deriving Inhabited,DecidableEq
def bc.bk(v:bc):Nat:=1+cn v.x_+cn v.y+cn v.signed+cn v.code
abbrev bc.fits(Γ:Gh)(x:bc):Prop:=I64 x.x_∧I64 x.y
abbrev bc.cs(x:bc):List Value:=[.int .i64 x.x_,.int .i64 x.y,.bool x.signed,.int .u8 (x.code.toNat:Int)]
theorem bc.fits_mono{Γ Δ:Gh}{x:bc}(h:bc.fits Γ  x)(hs:Γ.le Δ):bc.fits Δ  x:=by
 exact h
structure aK where
 msg:ByteArray
 addr:Int
 deriving Inhabited,DecidableEq
def aK.bk(v:aK):Nat:=1+sg v.msg+cn v.addr
abbrev aK.fits(Γ:Gh)(x:aK):Prop:=x.msg.size≤lim∧U64 x.addr
abbrev aK.cs(x:aK):List Value:=[.string x.msg,.int .u64 x.addr]
theorem aK.fits_mono{Γ Δ:Gh}{x:aK}(h:aK.fits Γ  x)(hs:Γ.le Δ):aK.fits Δ  x:=by
 exact h
structure aq where
 self:Int
 sites:Int
 links:(List Int)
 cap:Int
 base:Int
 members:(List Int)
 deriving Inhabited,DecidableEq
def aq.bk(v:aq):Nat:=1+cn v.self+cn v.sites+(bkL cn) v.links+cn v.cap+cn v.base+(bkL cn) v.members
abbrev aq.fits(Γ:Gh)(A2:Option Addr)(c2:Nat)(A5:Option Addr)(c5:Nat)(x:aq):Prop:=I64 x.self∧I64 x.sites∧(x.links.length≤c2∧Sl intT Γ A2 x.links)∧I64 x.cap∧I64 x.base∧(x.members.length≤c5∧Sl intT Γ A5 x.members)
abbrev aq.cs(A2:Option Addr)(c2:Nat)(A5:Option Addr)(c5:Nat)(x:aq):List Value:=[.int .i64 x.self,.int .i64 x.sites,.slice A2 x.links.length c2,.int .i64 x.cap,.int .i64 x.base,.slice A5 x.members.length c5]
theorem aq.fits_mono{Γ Δ:Gh}{A2:Option Addr}{c2:Nat}{A5:Option Addr}{c5:Nat}{x:aq}(h:aq.fits Γ A2 c2 A5 c5 x)(hs:Γ.le Δ):aq.fits Δ A2 c2 A5 c5 x:=by
 obtain⟨h0,h1,h2,h3,h4,h5⟩:=h
 exact⟨h0,h1,⟨h2.1,h2.2.mono hs⟩,h3,h4,⟨h5.1,h5.2.mono hs⟩⟩
structure Dot where
 s:Int
 n:Int
 deriving Inhabited,DecidableEq
def Dot.bk(v:Dot):Nat:=1+cn v.s+cn v.n
abbrev Dot.fits(Γ:Gh)(x:Dot):Prop:=I64 x.s∧I64 x.n
abbrev Dot.cs(x:Dot):List Value:=[.int .i64 x.s,.int .i64 x.n]
theorem Dot.fits_mono{Γ Δ:Gh}{x:Dot}(h:Dot.fits Γ  x)(hs:Γ.le Δ):Dot.fits Δ  x:=by
 exact h
def dotT:Ty Dot where
 n:=2
 pos:=by decide
 rd:=λΓ cs x=>cs=Dot.cs  x∧Dot.fits Γ  x
 len:=by rintro Γ cs x ⟨rfl,h⟩; rfl
 one:=by rintro Γ cs x ⟨rfl,h⟩ u hu; simp only [Dot.cs,Ct,List.not_mem_nil,or_false] at hu; rcases hu with rfl | rfl <;> rfl
 mono:=by rintro Γ Δ cs x ⟨rfl,h⟩ hs; exact⟨rfl,Dot.fits_mono h hs⟩
structure Span where
 s:Int
 f:Int
 t:Int
 deriving Inhabited,DecidableEq
def Span.bk(v:Span):Nat:=1+cn v.s+cn v.f+cn v.t
abbrev Span.fits(Γ:Gh)(x:Span):Prop:=I64 x.s∧I64 x.f∧I64 x.t
abbrev Span.cs(x:Span):List Value:=[.int .i64 x.s,.int .i64 x.f,.int .i64 x.t]
theorem Span.fits_mono{Γ Δ:Gh}{x:Span}(h:Span.fits Γ  x)(hs:Γ.le Δ):Span.fits Δ  x:=by
 exact h
def gO:Ty Span where
 n:=3
 pos:=by decide
 rd:=λΓ cs x=>cs=Span.cs  x∧Span.fits Γ  x
 len:=by rintro Γ cs x ⟨rfl,h⟩; rfl
 one:=by rintro Γ cs x ⟨rfl,h⟩ u hu; simp only [Span.cs,Ct,List.not_mem_nil,or_false] at hu; rcases hu with rfl | rfl | rfl <;> rfl
 mono:=by rintro Γ Δ cs x ⟨rfl,h⟩ hs; exact⟨rfl,Span.fits_mono h hs⟩
theorem Sl.spanT_at{Γ:Gh}{A:Option Addr}{xs:List Span}{i:Nat}(h:Sl gO Γ A xs)(hi:i<xs.length):Span.fits Γ (gt xs i)∧eS Γ A (i*3) (Span.cs (gt xs i)):=by
 obtain⟨cs,⟨rfl,h1⟩,h2⟩:=h.get i hi
 exact⟨h1,h2⟩
theorem Own.spanT_at{Γ:Gh}{A:Option Addr}{xs:List Span}{e c:Nat}{row:Rowb}{i:Nat}(h:Own gO Γ e row A c xs)(hi:i<xs.length):Span.fits Γ (gt xs i)∧jS row A (i*3) (Span.cs (gt xs i)):=by
 obtain⟨cs,⟨rfl,h1⟩,h2⟩:=h.get hi
 exact⟨h1,h2⟩
structure Ver where
 dot:Dot
 past:(List Span)
 gone:Bool
 val:ByteArray
 deriving Inhabited,DecidableEq
def Ver.bk(v:Ver):Nat:=1+Dot.bk v.dot+(bkL Span.bk) v.past+cn v.gone+sg v.val
abbrev Ver.fits(Γ:Gh)(A2:Option Addr)(c2:Nat)(x:Ver):Prop:=I64 x.dot.s∧I64 x.dot.n∧(x.past.length≤c2∧Sl gO Γ A2 x.past)∧x.val.size≤lim
abbrev Ver.cs(A2:Option Addr)(c2:Nat)(x:Ver):List Value:=[.int .i64 x.dot.s,.int .i64 x.dot.n,.slice A2 x.past.length c2,.bool x.gone,.string x.val]
theorem Ver.fits_mono{Γ Δ:Gh}{A2:Option Addr}{c2:Nat}{x:Ver}(h:Ver.fits Γ A2 c2 x)(hs:Γ.le Δ):Ver.fits Δ A2 c2 x:=by
 obtain⟨h0,h1,h2,h3⟩:=h
 exact⟨h0,h1,⟨h2.1,h2.2.mono hs⟩,h3⟩
def verT:Ty Ver where
 n:=5
 pos:=by decide
 rd:=λΓ cs x => ∃A2 c2,cs=Ver.cs A2 c2 x∧Ver.fits Γ A2 c2 x
 len:=by rintro Γ cs x ⟨A2,c2,rfl,h⟩; rfl
 one:=by rintro Γ cs x ⟨A2,c2,rfl,h⟩ u hu; simp only [Ver.cs,Ct,List.not_mem_nil,or_false] at hu; rcases hu with rfl | rfl | rfl | rfl | rfl <;> rfl
 mono:=by rintro Γ Δ cs x ⟨A2,c2,rfl,h⟩ hs; exact⟨A2,c2,rfl,Ver.fits_mono h hs⟩
theorem Sl.verT_at{Γ:Gh}{A:Option Addr}{xs:List Ver}(h:Sl verT Γ A xs)(i:Nat):∃A2 c2,i<xs.length→Ver.fits Γ A2 c2 (gt xs i)∧eS Γ A (i*5) (Ver.cs A2 c2 (gt xs i)):=by
 by_cases hi:i<xs.length
 ·obtain⟨cs,⟨A2,c2,rfl,h⟩,h2⟩:=h.get i hi
  exact⟨A2,c2,λ_=>⟨h,h2⟩⟩
 ·exact⟨none,0,λh=>absurd h hi⟩
theorem Own.verT_at{Γ:Gh}{A:Option Addr}{xs:List Ver}{e c:Nat}{row:Rowb}(h:Own verT Γ e row A c xs)(i:Nat):∃A2 c2,i<xs.length→Ver.fits Γ A2 c2 (gt xs i)∧jS row A (i*5) (Ver.cs A2 c2 (gt xs i)):=by
 by_cases hi:i<xs.length
 ·obtain⟨cs,⟨A2,c2,rfl,h⟩,h2⟩:=h.get hi
  exact⟨A2,c2,λ_=>⟨h,h2⟩⟩
 ·exact⟨none,0,λh=>absurd h hi⟩
structure Rec where
 key:ByteArray
 vers:(List Ver)
 deriving Inhabited,DecidableEq
def Rec.bk(v:Rec):Nat:=1+sg v.key+(bkL Ver.bk) v.vers
abbrev Rec.fits(Γ:Gh)(A1:Option Addr)(c1:Nat)(x:Rec):Prop:=x.key.size≤lim∧(x.vers.length≤c1∧Sl verT Γ A1 x.vers)
abbrev Rec.cs(A1:Option Addr)(c1:Nat)(x:Rec):List Value:=[.string x.key,.slice A1 x.vers.length c1]
theorem Rec.fits_mono{Γ Δ:Gh}{A1:Option Addr}{c1:Nat}{x:Rec}(h:Rec.fits Γ A1 c1 x)(hs:Γ.le Δ):Rec.fits Δ A1 c1 x:=by
 obtain⟨h0,h1⟩:=h
 exact⟨h0,⟨h1.1,h1.2.mono hs⟩⟩
def recT:Ty Rec where
 n:=2
 pos:=by decide
 rd:=λΓ cs x => ∃A1 c1,cs=Rec.cs A1 c1 x∧Rec.fits Γ A1 c1 x
 len:=by rintro Γ cs x ⟨A1,c1,rfl,h⟩; rfl
 one:=by rintro Γ cs x ⟨A1,c1,rfl,h⟩ u hu; simp only [Rec.cs,Ct,List.not_mem_nil,or_false] at hu; rcases hu with rfl | rfl <;> rfl
 mono:=by rintro Γ Δ cs x ⟨A1,c1,rfl,h⟩ hs; exact⟨A1,c1,rfl,Rec.fits_mono h hs⟩
theorem Sl.recT_at{Γ:Gh}{A:Option Addr}{xs:List Rec}(h:Sl recT Γ A xs)(i:Nat):∃A1 c1,i<xs.length→Rec.fits Γ A1 c1 (gt xs i)∧eS Γ A (i*2) (Rec.cs A1 c1 (gt xs i)):=by
 by_cases hi:i<xs.length
 ·obtain⟨cs,⟨A1,c1,rfl,h⟩,h2⟩:=h.get i hi
  exact⟨A1,c1,λ_=>⟨h,h2⟩⟩
 ·exact⟨none,0,λh=>absurd h hi⟩
theorem Own.recT_at{Γ:Gh}{A:Option Addr}{xs:List Rec}{e c:Nat}{row:Rowb}(h:Own recT Γ e row A c xs)(i:Nat):∃A1 c1,i<xs.length→Rec.fits Γ A1 c1 (gt xs i)∧jS row A (i*2) (Rec.cs A1 c1 (gt xs i)):=by
 by_cases hi:i<xs.length
 ·obtain⟨cs,⟨A1,c1,rfl,h⟩,h2⟩:=h.get hi
  exact⟨A1,c1,λ_=>⟨h,h2⟩⟩
 ·exact⟨none,0,λh=>absurd h hi⟩
structure ai where
 seq:Int
 rec_:Rec
 route:(List Int)
 deriving Inhabited,DecidableEq
def ai.bk(v:ai):Nat:=1+cn v.seq+Rec.bk v.rec_+(bkL cn) v.route
abbrev ai.fits(Γ:Gh)(A2:Option Addr)(c2:Nat)(A3:Option Addr)(c3:Nat)(x:ai):Prop:=I64 x.seq∧x.rec_.key.size≤lim∧(x.rec_.vers.length≤c2∧Sl verT Γ A2 x.rec_.vers)∧(x.route.length≤c3∧Sl intT Γ A3 x.route)
abbrev ai.cs(A2:Option Addr)(c2:Nat)(A3:Option Addr)(c3:Nat)(x:ai):List Value:=[.int .i64 x.seq,.string x.rec_.key,.slice A2 x.rec_.vers.length c2,.slice A3 x.route.length c3]
theorem ai.fits_mono{Γ Δ:Gh}{A2:Option Addr}{c2:Nat}{A3:Option Addr}{c3:Nat}{x:ai}(h:ai.fits Γ A2 c2 A3 c3 x)(hs:Γ.le Δ):ai.fits Δ A2 c2 A3 c3 x:=by
 obtain⟨h0,h1,h2,h3⟩:=h
 exact⟨h0,h1,⟨h2.1,h2.2.mono hs⟩,⟨h3.1,h3.2.mono hs⟩⟩
def bN:Ty ai where
 n:=4
 pos:=by decide
 rd:=λΓ cs x => ∃A2 c2 A3 c3,cs=ai.cs A2 c2 A3 c3 x∧ai.fits Γ A2 c2 A3 c3 x
 len:=by rintro Γ cs x ⟨A2,c2,A3,c3,rfl,h⟩; rfl
 one:=by rintro Γ cs x ⟨A2,c2,A3,c3,rfl,h⟩ u hu; simp only [ai.cs,Ct,List.not_mem_nil,or_false] at hu; rcases hu with rfl | rfl | rfl | rfl <;> rfl
 mono:=by rintro Γ Δ cs x ⟨A2,c2,A3,c3,rfl,h⟩ hs; exact⟨A2,c2,A3,c3,rfl,ai.fits_mono h hs⟩
theorem Sl.dqueue_EntryT_at{Γ:Gh}{A:Option Addr}{xs:List ai}(h:Sl bN Γ A xs)(i:Nat):∃A2 c2 A3 c3,i<xs.length→ai.fits Γ A2 c2 A3 c3 (gt xs i)∧eS Γ A (i*4) (ai.cs A2 c2 A3 c3 (gt xs i)):=by
 by_cases hi:i<xs.length
 ·obtain⟨cs,⟨A2,c2,A3,c3,rfl,h⟩,h2⟩:=h.get i hi
  exact⟨A2,c2,A3,c3,λ_=>⟨h,h2⟩⟩
 ·exact⟨none,0,none,0,λh=>absurd h hi⟩
theorem Own.dqueue_EntryT_at{Γ:Gh}{A:Option Addr}{xs:List ai}{e c:Nat}{row:Rowb}(h:Own bN Γ e row A c xs)(i:Nat):∃A2 c2 A3 c3,i<xs.length→ai.fits Γ A2 c2 A3 c3 (gt xs i)∧jS row A (i*4) (ai.cs A2 c2 A3 c3 (gt xs i)):=by
 by_cases hi:i<xs.length
 ·obtain⟨cs,⟨A2,c2,A3,c3,rfl,h⟩,h2⟩:=h.get hi
  exact⟨A2,c2,A3,c3,λ_=>⟨h,h2⟩⟩
 ·exact⟨none,0,none,0,λh=>absurd h hi⟩
structure ar where
 r:Rec
 deriving Inhabited,DecidableEq
def ar.bk(v:ar):Nat:=1+Rec.bk v.r
abbrev ar.fits(Γ:Gh)(A1:Option Addr)(c1:Nat)(x:ar):Prop:=x.r.key.size≤lim∧(x.r.vers.length≤c1∧Sl verT Γ A1 x.r.vers)
abbrev ar.cs(A1:Option Addr)(c1:Nat)(x:ar):List Value:=[.string x.r.key,.slice A1 x.r.vers.length c1]
theorem ar.fits_mono{Γ Δ:Gh}{A1:Option Addr}{c1:Nat}{x:ar}(h:ar.fits Γ A1 c1 x)(hs:Γ.le Δ):ar.fits Δ A1 c1 x:=by
 obtain⟨h0,h1⟩:=h
 exact⟨h0,⟨h1.1,h1.2.mono hs⟩⟩
structure ae where
 route:(List Int)
 r:Rec
 deriving Inhabited,DecidableEq
def ae.bk(v:ae):Nat:=1+(bkL cn) v.route+Rec.bk v.r
abbrev ae.fits(Γ:Gh)(A0:Option Addr)(c0:Nat)(A2:Option Addr)(c2:Nat)(x:ae):Prop:=(x.route.length≤c0∧Sl intT Γ A0 x.route)∧x.r.key.size≤lim∧(x.r.vers.length≤c2∧Sl verT Γ A2 x.r.vers)
abbrev ae.cs(A0:Option Addr)(c0:Nat)(A2:Option Addr)(c2:Nat)(x:ae):List Value:=[.slice A0 x.route.length c0,.string x.r.key,.slice A2 x.r.vers.length c2]
theorem ae.fits_mono{Γ Δ:Gh}{A0:Option Addr}{c0:Nat}{A2:Option Addr}{c2:Nat}{x:ae}(h:ae.fits Γ A0 c0 A2 c2 x)(hs:Γ.le Δ):ae.fits Δ A0 c0 A2 c2 x:=by
 obtain⟨h0,h1,h2⟩:=h
 exact⟨⟨h0.1,h0.2.mono hs⟩,h1,⟨h2.1,h2.2.mono hs⟩⟩
structure aC where
 entry:ai
 want:Nat
 deriving Inhabited,DecidableEq
def aC.bk(v:aC):Nat:=1+ai.bk v.entry+cn v.want
abbrev aC.fits(Γ:Gh)(A2:Option Addr)(c2:Nat)(A3:Option Addr)(c3:Nat)(x:aC):Prop:=I64 x.entry.seq∧x.entry.rec_.key.size≤lim∧(x.entry.rec_.vers.length≤c2∧Sl verT Γ A2 x.entry.rec_.vers)∧(x.entry.route.length≤c3∧Sl intT Γ A3 x.entry.route)
abbrev aC.cs(A2:Option Addr)(c2:Nat)(A3:Option Addr)(c3:Nat)(x:aC):List Value:=[.int .i64 x.entry.seq,.string x.entry.rec_.key,.slice A2 x.entry.rec_.vers.length c2,.slice A3 x.entry.route.length c3,.map (some x.want)]
theorem aC.fits_mono{Γ Δ:Gh}{A2:Option Addr}{c2:Nat}{A3:Option Addr}{c3:Nat}{x:aC}(h:aC.fits Γ A2 c2 A3 c3 x)(hs:Γ.le Δ):aC.fits Δ A2 c2 A3 c3 x:=by
 obtain⟨h0,h1,h2,h3⟩:=h
 exact⟨h0,h1,⟨h2.1,h2.2.mono hs⟩,⟨h3.1,h3.2.mono hs⟩⟩
def aZ:Ty aC where
 n:=5
 pos:=by decide
 rd:=λΓ cs x => ∃A2 c2 A3 c3,cs=aC.cs A2 c2 A3 c3 x∧aC.fits Γ A2 c2 A3 c3 x
 len:=by rintro Γ cs x ⟨A2,c2,A3,c3,rfl,h⟩; rfl
 one:=by rintro Γ cs x ⟨A2,c2,A3,c3,rfl,h⟩ u hu; simp only [aC.cs,Ct,List.not_mem_nil,or_false] at hu; rcases hu with rfl | rfl | rfl | rfl | rfl <;> rfl
 mono:=by rintro Γ Δ cs x ⟨A2,c2,A3,c3,rfl,h⟩ hs; exact⟨A2,c2,A3,c3,rfl,aC.fits_mono h hs⟩
theorem Sl.dqueue_entryT_at{Γ:Gh}{A:Option Addr}{xs:List aC}(h:Sl aZ Γ A xs)(i:Nat):∃A2 c2 A3 c3,i<xs.length→aC.fits Γ A2 c2 A3 c3 (gt xs i)∧eS Γ A (i*5) (aC.cs A2 c2 A3 c3 (gt xs i)):=by
 by_cases hi:i<xs.length
 ·obtain⟨cs,⟨A2,c2,A3,c3,rfl,h⟩,h2⟩:=h.get i hi
  exact⟨A2,c2,A3,c3,λ_=>⟨h,h2⟩⟩
 ·exact⟨none,0,none,0,λh=>absurd h hi⟩
theorem Own.dqueue_entryT_at{Γ:Gh}{A:Option Addr}{xs:List aC}{e c:Nat}{row:Rowb}(h:Own aZ Γ e row A c xs)(i:Nat):∃A2 c2 A3 c3,i<xs.length→aC.fits Γ A2 c2 A3 c3 (gt xs i)∧jS row A (i*5) (aC.cs A2 c2 A3 c3 (gt xs i)):=by
 by_cases hi:i<xs.length
 ·obtain⟨cs,⟨A2,c2,A3,c3,rfl,h⟩,h2⟩:=h.get hi
  exact⟨A2,c2,A3,c3,λ_=>⟨h,h2⟩⟩
 ·exact⟨none,0,none,0,λh=>absurd h hi⟩
structure al where
 sink:Int
 seq:Int
 deriving Inhabited,DecidableEq
def al.bk(v:al):Nat:=1+cn v.sink+cn v.seq
abbrev al.fits(Γ:Gh)(x:al):Prop:=I64 x.sink∧I64 x.seq
abbrev al.cs(x:al):List Value:=[.int .i64 x.sink,.int .i64 x.seq]
theorem al.fits_mono{Γ Δ:Gh}{x:al}(h:al.fits Γ  x)(hs:Γ.le Δ):al.fits Δ  x:=by
 exact h
structure ax where
 sink:Int
 deriving Inhabited,DecidableEq
def ax.bk(v:ax):Nat:=1+cn v.sink
abbrev ax.fits(Γ:Gh)(x:ax):Prop:=I64 x.sink
abbrev ax.cs(x:ax):List Value:=[.int .i64 x.sink]
theorem ax.fits_mono{Γ Δ:Gh}{x:ax}(h:ax.fits Γ  x)(hs:Γ.le Δ):ax.fits Δ  x:=by
 exact h
structure cq where
 b:(List UInt8)
 at_:Int
 bad:Bool
 deriving Inhabited,DecidableEq
def cq.bk(v:cq):Nat:=1+(bkL cn) v.b+cn v.at_+cn v.bad
abbrev cq.fits(Γ:Gh)(A0:Option Addr)(c0:Nat)(x:cq):Prop:=(x.b.length≤c0∧Sl ay Γ A0 x.b)∧I64 x.at_
abbrev cq.cs(A0:Option Addr)(c0:Nat)(x:cq):List Value:=[.slice A0 x.b.length c0,.int .i64 x.at_,.bool x.bad]
theorem cq.fits_mono{Γ Δ:Gh}{A0:Option Addr}{c0:Nat}{x:cq}(h:cq.fits Γ A0 c0 x)(hs:Γ.le Δ):cq.fits Δ A0 c0 x:=by
 obtain⟨h0,h1⟩:=h
 exact⟨⟨h0.1,h0.2.mono hs⟩,h1⟩
structure dF where
 vec:(List Int)
 deriving Inhabited,DecidableEq
def dF.bk(v:dF):Nat:=1+(bkL cn) v.vec
abbrev dF.fits(Γ:Gh)(A0:Option Addr)(c0:Nat)(x:dF):Prop:=(x.vec.length≤c0∧Sl intT Γ A0 x.vec)
abbrev dF.cs(A0:Option Addr)(c0:Nat)(x:dF):List Value:=[.slice A0 x.vec.length c0]
theorem dF.fits_mono{Γ Δ:Gh}{A0:Option Addr}{c0:Nat}{x:dF}(h:dF.fits Γ A0 c0 x)(hs:Γ.le Δ):dF.fits Δ A0 c0 x:=by
 have h0:=h
 exact⟨h0.1,h0.2.mono hs⟩
structure cV where
 list:(List Int)
 deriving Inhabited,DecidableEq
def cV.bk(v:cV):Nat:=1+(bkL cn) v.list
abbrev cV.fits(Γ:Gh)(A0:Option Addr)(c0:Nat)(x:cV):Prop:=(x.list.length≤c0∧Sl intT Γ A0 x.list)
abbrev cV.cs(A0:Option Addr)(c0:Nat)(x:cV):List Value:=[.slice A0 x.list.length c0]
theorem cV.fits_mono{Γ Δ:Gh}{A0:Option Addr}{c0:Nat}{x:cV}(h:cV.fits Γ A0 c0 x)(hs:Γ.le Δ):cV.fits Δ A0 c0 x:=by
 have h0:=h
 exact⟨h0.1,h0.2.mono hs⟩
structure bR where
 seq:Int
 deriving Inhabited,DecidableEq
def bR.bk(v:bR):Nat:=1+cn v.seq
abbrev bR.fits(Γ:Gh)(x:bR):Prop:=I64 x.seq
abbrev bR.cs(x:bR):List Value:=[.int .i64 x.seq]
theorem bR.fits_mono{Γ Δ:Gh}{x:bR}(h:bR.fits Γ  x)(hs:Γ.le Δ):bR.fits Δ  x:=by
 exact h
structure eE where
 seq:Int
 sinks:(List Int)
 path:(List Int)
 r:Rec
 deriving Inhabited,DecidableEq
def eE.bk(v:eE):Nat:=1+cn v.seq+(bkL cn) v.sinks+(bkL cn) v.path+Rec.bk v.r
abbrev eE.fits(Γ:Gh)(A1:Option Addr)(c1:Nat)(A2:Option Addr)(c2:Nat)(A4:Option Addr)(c4:Nat)(x:eE):Prop:=I64 x.seq∧(x.sinks.length≤c1∧Sl intT Γ A1 x.sinks)∧(x.path.length≤c2∧Sl intT Γ A2 x.path)∧x.r.key.size≤lim∧(x.r.vers.length≤c4∧Sl verT Γ A4 x.r.vers)
abbrev eE.cs(A1:Option Addr)(c1:Nat)(A2:Option Addr)(c2:Nat)(A4:Option Addr)(c4:Nat)(x:eE):List Value:=[.int .i64 x.seq,.slice A1 x.sinks.length c1,.slice A2 x.path.length c2,.string x.r.key,.slice A4 x.r.vers.length c4]
theorem eE.fits_mono{Γ Δ:Gh}{A1:Option Addr}{c1:Nat}{A2:Option Addr}{c2:Nat}{A4:Option Addr}{c4:Nat}{x:eE}(h:eE.fits Γ A1 c1 A2 c2 A4 c4 x)(hs:Γ.le Δ):eE.fits Δ A1 c1 A2 c2 A4 c4 x:=by
 obtain⟨h0,h1,h2,h3,h4⟩:=h
 exact⟨h0,⟨h1.1,h1.2.mono hs⟩,⟨h2.1,h2.2.mono hs⟩,h3,⟨h4.1,h4.2.mono hs⟩⟩
structure cP where
 sink:Int
 deriving Inhabited,DecidableEq
def cP.bk(v:cP):Nat:=1+cn v.sink
abbrev cP.fits(Γ:Gh)(x:cP):Prop:=I64 x.sink
abbrev cP.cs(x:cP):List Value:=[.int .i64 x.sink]
theorem cP.fits_mono{Γ Δ:Gh}{x:cP}(h:cP.fits Γ  x)(hs:Γ.le Δ):cP.fits Δ  x:=by
 exact h
structure cX where
 b:(List UInt8)
 deriving Inhabited,DecidableEq
def cX.bk(v:cX):Nat:=1+(bkL cn) v.b
abbrev cX.fits(Γ:Gh)(A0:Option Addr)(c0:Nat)(x:cX):Prop:=(x.b.length≤c0∧Sl ay Γ A0 x.b)
abbrev cX.cs(A0:Option Addr)(c0:Nat)(x:cX):List Value:=[.slice A0 x.b.length c0]
theorem cX.fits_mono{Γ Δ:Gh}{A0:Option Addr}{c0:Nat}{x:cX}(h:cX.fits Γ A0 c0 x)(hs:Γ.le Δ):cX.fits Δ A0 c0 x:=by
 have h0:=h
 exact⟨h0.1,h0.2.mono hs⟩
inductive aj where
 | disk_Disk_Cut_1 (a0:ByteArray) (a1:Int)
 | disk_Disk_Remove_1 (a0:ByteArray)
 | disk_add_1 (a0:ByteArray) (a1:(List UInt8))
 deriving Inhabited,DecidableEq
def aj.fid:aj→FuncId
 | .disk_Disk_Cut_1 _ _=>102
 | .disk_Disk_Remove_1 _=>108
 | .disk_add_1 _ _=>149
def aj.caps:aj→Option Addr→Nat→Array Value
 | .disk_Disk_Cut_1 _ _,A,c=>#[.pointer (some ⟨c,0,none⟩),.pointer A]
 | .disk_Disk_Remove_1 _,A,c=>#[.pointer (some ⟨c,0,none⟩)]
 | .disk_add_1 _ _,A,c=>#[.pointer (some ⟨c,0,none⟩),.pointer A]
def aj.val(x:aj)(A:Option Addr)(c:Nat):Value:=.func (.func (aj.fid x)) #[] (aj.caps x A c)
theorem aj.val_one(x:aj)(A:Option Addr)(c:Nat):(aj.val x A c).oneCell'=true:=rfl
def aj.ok(Γ:Gh)(A:Option Addr)(c:Nat):aj→Prop
 | .disk_Disk_Cut_1 a0 a1=>(Γ c=some (.cells #[.string a0] 9 (0,0))∧a0.size≤lim)∧(∃(g1:Nat),A=some ⟨g1,0,none⟩∧Γ g1=some (.cells #[.int .i64 a1] 3 (0,0))∧I64 a1)∧True
 | .disk_Disk_Remove_1 a0=>(Γ c=some (.cells #[.string a0] 9 (0,0))∧a0.size≤lim)∧True
 | .disk_add_1 a0 a1=>(Γ c=some (.cells #[.string a0] 9 (0,0))∧a0.size≤lim)∧(∃(g1:Nat) (A1_0:Option Addr) (c1_0:Nat),A=some ⟨g1,0,none⟩∧Γ g1=some (.cells #[.slice A1_0 a1.length c1_0] 69 (0,0))∧a1.length≤c1_0∧Sl ay Γ A1_0 a1)∧True
theorem aj.ok.mono{Γ Δ:Gh}{A:Option Addr}{c:Nat}:∀{x:aj},aj.ok Γ A c x→Γ.le Δ→aj.ok Δ A c x:=by
 intro x h hs; revert h; exact match x with
 | .disk_Disk_Cut_1 _ _=>λ⟨⟨h0_0,h0_1⟩,⟨g1,h1_0,h1_1,h1_2⟩,_⟩=>⟨⟨hs _ _ h0_0,h0_1⟩,⟨g1,h1_0,hs _ _ h1_1,h1_2⟩,trivial⟩
 | .disk_Disk_Remove_1 _=>λ⟨⟨h0_0,h0_1⟩,_⟩=>⟨⟨hs _ _ h0_0,h0_1⟩,trivial⟩
 | .disk_add_1 _ _=>λ⟨⟨h0_0,h0_1⟩,⟨g1,A1_0,c1_0,h1_0,h1_1,h1_2,h1_3⟩,_⟩=>⟨⟨hs _ _ h0_0,h0_1⟩,⟨g1,A1_0,c1_0,h1_0,hs _ _ h1_1,h1_2,h1_3.mono hs⟩,trivial⟩
structure aG where
 do_:aj
 name:ByteArray
 tail:(List UInt8)
 deriving Inhabited,DecidableEq
def aG.bk(v:aG):Nat:=1+cn v.do_+sg v.name+(bkL cn) v.tail
abbrev aG.fits(Γ:Gh)(A0:Option Addr)(c0:Nat)(A2:Option Addr)(c2:Nat)(x:aG):Prop:=aj.ok Γ A0 c0 x.do_∧x.name.size≤lim∧(x.tail.length≤c2∧Sl ay Γ A2 x.tail)
abbrev aG.cs(A0:Option Addr)(c0:Nat)(A2:Option Addr)(c2:Nat)(x:aG):List Value:=[aj.val x.do_ A0 c0,.string x.name,.slice A2 x.tail.length c2]
theorem aG.fits_mono{Γ Δ:Gh}{A0:Option Addr}{c0:Nat}{A2:Option Addr}{c2:Nat}{x:aG}(h:aG.fits Γ A0 c0 A2 c2 x)(hs:Γ.le Δ):aG.fits Δ A0 c0 A2 c2 x:=by
 obtain⟨h0,h1,h2⟩:=h
 exact⟨aj.ok.mono h0 hs,h1,⟨h2.1,h2.2.mono hs⟩⟩
def j7:Ty aG where
 n:=3
 pos:=by decide
 rd:=λΓ cs x => ∃A0 c0 A2 c2,cs=aG.cs A0 c0 A2 c2 x∧aG.fits Γ A0 c0 A2 c2 x
 len:=by rintro Γ cs x ⟨A0,c0,A2,c2,rfl,h⟩; rfl
 one:=by rintro Γ cs x ⟨A0,c0,A2,c2,rfl,h⟩ u hu; simp only [aG.cs,Ct,List.not_mem_nil,or_false] at hu; rcases hu with rfl | rfl | rfl <;> first | rfl | exact aj.val_one _ _ _
 mono:=by rintro Γ Δ cs x ⟨A0,c0,A2,c2,rfl,h⟩ hs; exact⟨A0,c0,A2,c2,rfl,aG.fits_mono h hs⟩
structure cS where
 b:(List UInt8)
 at_:Int
 deriving Inhabited,DecidableEq
def cS.bk(v:cS):Nat:=1+(bkL cn) v.b+cn v.at_
abbrev cS.fits(Γ:Gh)(A0:Option Addr)(c0:Nat)(x:cS):Prop:=(x.b.length≤c0∧Sl ay Γ A0 x.b)∧I64 x.at_
abbrev cS.cs(A0:Option Addr)(c0:Nat)(x:cS):List Value:=[.slice A0 x.b.length c0,.int .i64 x.at_]
theorem cS.fits_mono{Γ Δ:Gh}{A0:Option Addr}{c0:Nat}{x:cS}(h:cS.fits Γ A0 c0 x)(hs:Γ.le Δ):cS.fits Δ A0 c0 x:=by
 obtain⟨h0,h1⟩:=h
 exact⟨⟨h0.1,h0.2.mono hs⟩,h1⟩
end Fw
end Go.Proofs.YtangaamigenjjaaGreat
