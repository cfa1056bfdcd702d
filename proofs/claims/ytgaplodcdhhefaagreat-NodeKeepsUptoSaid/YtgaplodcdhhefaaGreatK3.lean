/- Data in memory: types that read as data, slices that read as lists, rows of the call's own. No condition. -/
import Derived.Test.YtgaplodcdhhefaaGreatK2
namespace Go.Proofs.YtgaplodcdhhefaaGreat
namespace Fw
set_option linter.unusedVariables false
set_option linter.unusedSimpArgs false
set_option linter.unusedSectionVars false
open Go.RowKit
def w64(x:Int):Int:=(x+9223372036854775808) % 18446744073709551616 - 9223372036854775808
def wu64(x:Int):Int:=x % 18446744073709551616
def wu32(x:Int):Int:=x % 4294967296
def wu8(x:Int):Int:=x % 256
def wr(k:IntKind)(x:Int):Int:=match k with
 | .i64=>w64 x
 | .u64=>wu64 x
 | .u32=>wu32 x
 | .u8=>wu8 x
 | k=>k.wrap x
theorem mv(k:IntKind)(x:Int):k.wrap x=wr k x:=by
 cases k with
 | i64=>rw [IntKind.wrap_i64]; rfl
 | u64=>simp [IntKind.wrap,IntKind.bits,IntKind.signed,wr,wu64]
 | u32=>rw [IntKind.wrap_u32]; rfl
 | u8=>rw [IntKind.wrap_u8]; rfl
 | _=>rfl
@[reducible] def I64 (x:Int):Prop := -9223372036854775808≤x∧x≤9223372036854775807
@[reducible] def U64 (x:Int):Prop:=0≤x∧x≤18446744073709551615
@[reducible] def U32 (x:Int):Prop:=0≤x∧x≤4294967295
@[reducible] def U8 (x:Int):Prop:=0≤x∧x≤255
theorem ep(x:Int):I64 (w64 x):=by unfold w64 I64; omega
theorem rI(x:Int):U64 (wu64 x):=by unfold wu64 U64; omega
theorem zB(x:Int):U8 (wu8 x):=by unfold wu8 U8; omega
theorem bO{x:Int}(h:I64 x):w64 x=x:=by unfold w64; unfold I64 at h; omega
theorem kT{x:Int}(h:U64 x):wu64 x=x:=by unfold wu64; unfold U64 at h; omega
theorem yx{x:Int}(h:U32 x):wu32 x=x:=by unfold wu32; unfold U32 at h; omega
theorem xD{x:Int}(h:U8 x):wu8 x=x:=by unfold wu8; unfold U8 at h; omega
theorem lS{n:Nat}(h:n≤lim):I64 (n:Int):=by rw [aK] at h; unfold I64; omega
theorem yw{a b:Int}(h:I64 a)(h':I64 b):I64 (max a b):=by unfold I64 at *; omega
theorem BD{a b:Int}(h:I64 a)(h':I64 b):I64 (min a b):=by unfold I64 at *; omega
def i64b(x:Int):Bool:=decide (-9223372036854775808≤x)&&decide (x≤9223372036854775807)
def u8b(x:Int):Bool:=decide (0≤x)&&decide (x≤255)
theorem cj{x:Int}(h:i64b x=true):I64 x:=⟨DP (bV h),DP (de h)⟩
theorem CK{x:Int}(h:u8b x=true):U8 x:=⟨DP (bV h),DP (de h)⟩
def b8(x:Int):UInt8:=UInt8.ofNat x.toNat
theorem qq{x:Int}(h:U8 x):((b8 x).toNat:Int)=x:=by
 unfold b8; unfold U8 at h
 rw [UInt8.toNat_ofNat_of_lt' (by show x.toNat<256; omega)]; omega
def inb(x:Int)(n:Nat):Bool:=decide (0≤x)&&decide (x<(n:Int))
theorem aq{x:Int}{n:Nat}(h:inb x n=true):x.toNat<n:=by
 have h1:=DP (bV h); have h2:=DP (de h); omega
theorem Ag{x:Int}{n:Nat}(h:inb x n=true):0≤x:=DP (bV h)
def nfz(fz:Nat×Nat)(i:Nat):Prop:=¬ (fz.1≤i∧i<fz.2)
theorem nfz0(i:Nat):nfz (0,0) i:=λh=>by have:=h.2; simp at this
def Cell(Γ:Gh)(A:Option Addr)(j:Nat)(v:Value):Prop := ∃b o cs t fz,A=some ⟨b,o,none⟩∧Γ b=some (.cells cs t fz)∧cs[o+j]? = some v∧nfz fz (o+j)
def eQ(Γ:Gh)(A:Option Addr)(j:Nat)(vs:List Value):Prop := ∀k v,vs[k]? = some v→Cell Γ A (j+k) v
section
variable {Γ Δ:Gh} {w w':World} {A:Option Addr} {j:Nat} {v:Value} {vs:List Value}
theorem Cell.mono(h:Cell Γ A j v)(hs:Γ.le Δ):Cell Δ A j v:=by
 obtain⟨b,o,cs,t,fz,rfl,hg,hc⟩:=h
 exact⟨b,o,cs,t,fz,rfl,hs _ _ hg,hc⟩
theorem eQ.mono(h:eQ Γ A j vs)(hs:Γ.le Δ):eQ Δ A j vs:=λk v hk=>(h k v hk).mono hs
theorem Cell.some_(h:Cell Γ A j v):A.isSome=true:=by obtain⟨b,o,cs,t,fz,rfl,_⟩:=h; rfl
theorem Cell.now(h:Cell Γ A j v)(hs:Sat Γ w):∃b o,A=some ⟨b,o,none⟩∧w.cell? ⟨b,o+j,none⟩=some v:=by
 obtain⟨b,o,cs,t,fz,rfl,hg,hc⟩:=h
 exact⟨b,o,rfl,by rw [cell_of_row w b (o+j) cs t fz (hs _ _ hg)]; exact hc.1⟩
end
structure Ty (α:Type) where
 n:Nat
 pos:0<n
 rd:Gh→List Value→α→Prop
 len:∀{Γ cs x},rd Γ cs x→cs.length=n
 one:∀{Γ cs x},rd Γ cs x→∀u∈cs,u.oneCell'=true
 mono:∀{Γ Δ cs x},rd Γ cs x→Γ.le Δ→rd Δ cs x
structure Sl {α:Type} [Inhabited α] (T:Ty α) (Γ:Gh) (A:Option Addr) (xs:List α):Prop where
 le:xs.length≤lim
 get:∀i,i<xs.length→∃cs,T.rd Γ cs (gt xs i)∧eQ Γ A (i*T.n) cs
section
variable {α:Type} [Inhabited α] {T:Ty α} {Γ Δ:Gh} {w w':World} {A:Option Addr} {xs:List α}
theorem Sl.mono(h:Sl T Γ A xs)(hs:Γ.le Δ):Sl T Δ A xs:=⟨h.le,λi hi=>let ⟨cs,h1,h2⟩:=h.get i hi; ⟨cs,T.mono h1 hs,h2.mono hs⟩⟩
theorem eQ.some_{j:Nat}{cs:List Value}(h:eQ Γ A j cs)(hp:0<cs.length):A.isSome=true:=by
 obtain⟨v,hv⟩:∃v,cs[0]? = some v:=⟨cs[0],List.getElem?_eq_getElem hp⟩
 exact(h 0 v hv).some_
theorem Sl.some_(h:Sl T Γ A xs){k:Nat}(hk:k<xs.length):A.isSome=true:=by
 obtain⟨cs,h1,h2⟩:=h.get k hk
 exact h2.some_ (by rw [T.len h1]; exact T.pos)
theorem Sl.nil(T:Ty α)(Γ:Gh)(A:Option Addr):Sl T Γ A []:=⟨by simp,λi h=>by simp at h⟩
theorem Sl.cut(h:Sl T Γ A xs){lo hi cap:Nat}(h1:lo≤hi)(h2:hi≤xs.length)(h3:xs.length≤cap):Sl T Γ (if cap=lo then A else A.map (·.add (lo*T.n))) ((xs.take hi).drop lo):=by
 have hle:=h.le
 refine⟨by simp; omega,λi hi'=>?_⟩
 have hi'':=hi'
 simp only [Ej,Ei] at hi'
 obtain⟨cs,g1,g2⟩:=h.get (lo+i) (by omega)
 have hg:gt ((xs.take hi).drop lo) i=gt xs (lo+i):=by
  rw [bA hi'',bA (by omega)]; simp
 refine⟨cs,by rw [hg]; exact g1,λj v hj=>?_⟩
 rw [if_neg (by omega)]
 obtain⟨b,o,cs',t,fz,rfl,hg',hc,hz⟩:=g2 j v hj
 refine⟨b,o+lo*T.n,cs',t,fz,?_,hg',?_,by rw [show o+lo*T.n+(i*T.n+j)=o+((lo+i)*T.n+j) by rw [Nat.add_mul]; omega]; exact hz⟩
 ·simp only [Eh,Addr.add]
  split
  ·rename_i h0; simp [h0]
  ·rfl
 ·rw [← hc]; congr 1; rw [Nat.add_mul]; omega
theorem Sl.cut_from{c lo:Nat}(h:Sl T Γ A xs)(h1:lo≤xs.length)(h2:xs.length≤c):Sl T Γ (if c=lo then A else A.map (·.add (lo*T.n))) (xs.drop lo):=by
 have:=h.cut (lo:=lo) (hi:=xs.length) (cap:=c) h1 (E6 _) h2
 rwa [List.take_length] at this
theorem Sl.cut_to{hi:Nat}(h:Sl T Γ A xs)(h1:hi≤xs.length):Sl T Γ A (xs.take hi):=by
 have hle:=h.le
 refine⟨by simp; omega,λi hi'=>?_⟩
 have hi'':i<hi∧i<xs.length:=by simpa [Nat.lt_min] using hi'
 obtain⟨cs,g1,g2⟩:=h.get i hi''.2
 refine⟨cs,?_,g2⟩
 rw [bA hi']
 rw [bA hi''.2] at g1
 simpa using g1
end
structure Own {α:Type} [Inhabited α] (T:Ty α) (Γ:Gh) (e:TypeId) (row:Rowb) (A:Option Addr) (c:Nat) (xs:List α):Prop where
 le:xs.length≤lim
 is:(A=none∧xs = []∧c=0∧row = []) ∨
  ∃(g:Nat) (cur:Array Value) (css:List (List Value)),A=some ⟨g,0,none⟩∧row = [(g,.cells cur e (0,0))]∧xs.length≤c∧c≤maxLen∧cur.size=c*T.n∧css.length=xs.length ∧
   cur.toList.take (xs.length*T.n)=css.flatten∧∀i (h1:i<css.length),T.rd Γ css[i] (gt xs i)
theorem jj{β:Type}(n:Nat):∀(css:List (List β)) (i j:Nat) (hi:i<css.length),(∀cs∈css,cs.length=n)→j<n→css.flatten[i*n+j]? = css[i][j]?
 | [],i,j,hi,_,_=>by simp at hi
 | cs::css,0,j,_,hl,hj=>by
  have:=hl cs (by simp)
  simp only [Ef,Nat.zero_mul,Nat.zero_add,List.getElem_cons_zero]
  rw [List.getElem?_append_left (by omega)]
 | cs::css,i+1,j,hi,hl,hj=>by
  have h0:=hl cs (by simp)
  simp only [Ef,List.getElem_cons_succ]
  rw [List.getElem?_append_right (by rw [h0,Nat.add_mul]; omega),h0,show (i+1)*n+j - n=i*n+j by rw [Nat.add_mul]; omega]
  exact jj n css i j (by simpa using hi) (λc hc=>hl c (by simp [hc])) hj
theorem da{β:Type}(n:Nat):∀(css:List (List β)),(∀cs∈css,cs.length=n)→css.flatten.length=css.length*n
 | [],_=>by simp
 | cs::css,hl=>by
  simp only [Ef,DS,DY,da n css (λc hc=>hl c (by simp [hc])),hl cs (by simp),Nat.add_mul]; omega
theorem wy{i j n m:Nat}(hi:i<n)(hj:j<m):i*m+j<n*m:=by
 calc i*m+j<i*m+m:=by omega
  _=(i+1)*m:=by rw [Nat.add_mul]; omega
  _≤n*m:=Nat.mul_le_mul_right _ (by omega)
def k5(row:Rowb)(A:Option Addr)(j:Nat)(vs:List Value):Prop := ∃g arr e,A=some ⟨g,0,none⟩∧row = [(g,.cells arr e (0,0))]∧∀k v,vs[k]? = some v→arr[j+k]? = some v
section
variable {α:Type} [Inhabited α] {T:Ty α} {Γ Δ:Gh} {w w':World} {e:TypeId} {row:Rowb} {A:Option Addr} {c:Nat} {xs:List α}
theorem Own.mono(h:Own T Γ e row A c xs)(hs:Γ.le Δ):Own T Δ e row A c xs:=by
 refine⟨h.le,?_⟩
 rcases h.is with h1 | ⟨g,cur,css,h1,h2,h3,h4,h5,h6,h7,h8⟩
 ·exact .inl h1
 ·exact .inr ⟨g,cur,css,h1,h2,h3,h4,h5,h6,h7,λi a=>T.mono (h8 i a) hs⟩
theorem Own.nil(T:Ty α)(Γ:Gh)(e:TypeId):Own T Γ e [] none 0 []:=⟨by simp,.inl ⟨rfl,rfl,rfl,rfl⟩⟩
theorem Own.capz(h:Own T Γ e row A c xs):xs.length≤c:=by
 rcases h.is with ⟨_,rfl,rfl,_⟩ | ⟨g,cur,css,_,_,h,_⟩
 ·exact E6 _
 ·exact h
theorem Own.some_(h:Own T Γ e row A c xs){k:Nat}(hk:k<xs.length):A.isSome=true:=by
 rcases h.is with ⟨_,rfl,_⟩ | ⟨g,cur,css,rfl,_⟩
 ·simp at hk
 ·rfl
theorem Own.get(h:Own T Γ e row A c xs){i:Nat}(hi:i<xs.length):∃cs,T.rd Γ cs (gt xs i)∧k5 row A (i*T.n) cs:=by
 rcases h.is with ⟨_,rfl,_⟩ | ⟨g,cur,css,rfl,rfl,h3,h4,h5,h6,h7,h8⟩
 ·simp at hi
 ·have hic:i<css.length:=by omega
  have hall:∀cs∈css,cs.length=T.n:=by
   intro cs hcs
   obtain⟨k,hk,rfl⟩:=List.getElem_of_mem hcs
   exact T.len (h8 k hk)
  refine⟨css[i],h8 i hic,g,cur,e,rfl,rfl,λj v hj=>?_⟩
  have hjl:j<css[i].length:=(List.getElem?_eq_some_iff.1 hj).1
  have hjn:j<T.n:=by rw [hall _ (List.getElem_mem hic)] at hjl; exact hjl
  have h9:=jj T.n css i j hic hall hjn
  rw [← h7,List.getElem?_take,if_pos (wy hi hjn)] at h9
  rw [← Array.getElem?_toList,h9,hj]
theorem Own.sl(h:Own T Γ e row A c xs)(hs:Γ.le Δ)(hr:∀p∈row,Δ p.1=some p.2):Sl T Δ A xs:=by
 refine⟨h.le,λi hi=>?_⟩
 obtain⟨cs,h1,g,arr,e',rfl,rfl,h2⟩:=h.get hi
 refine⟨cs,T.mono h1 hs,λj v hj=>⟨g,0,arr,e',(0,0),rfl,hr (g,.cells arr e' (0,0)) (by simp),?_,nfz0 _⟩⟩
 rw [Nat.zero_add]; exact h2 j v hj
theorem Own.of_block{e:TypeId}{g:Nat}{cs:Array Value}{ys:List α}(css:List (List Value))(hcs:cs.toList=css.flatten)(hn:css.length=ys.length)(hle:ys.length≤lim)(hrd:∀i (h:i<css.length),T.rd Γ css[i] (gt ys i)):
  Own T Γ e [(g,.cells cs e (0,0))] (some ⟨g,0,none⟩) ys.length ys:=by
 have hall:∀c∈css,c.length=T.n:=by
  intro c hc
  obtain⟨k,hk,rfl⟩:=List.getElem_of_mem hc
  exact T.len (hrd k hk)
 have hl:cs.toList.length=ys.length*T.n:=by rw [hcs,da T.n css hall,hn]
 refine⟨hle,.inr ⟨g,cs,css,rfl,rfl,E6 _,?_,by simpa using hl,hn,?_,hrd⟩⟩
 ·have:ys.length≤2147483648:=hle
  unfold maxLen; omega
 ·rw [← hcs,List.take_of_length_le (by omega)]
def zN(T:Ty α)(Γ:Gh):List (List Value)→List α→Prop
 | [],[]=>True
 | c::cs,y::ys=>T.rd Γ c y∧zN T Γ cs ys
 | _,_=>False
theorem qi:∀{css:List (List Value)} {ys:List α},zN T Γ css ys→css.length=ys.length∧∀i (h:i<css.length),T.rd Γ css[i] (gt ys i)
 | [],[],_=>⟨rfl,λi h=>by simp at h⟩
 | [],_::_,h=>h.elim
 | _::_,[],h=>h.elim
 | c::cs,y::ys,h=>by
  obtain⟨h1,h2⟩:=qi h.2
  refine⟨by simp [h1],λi hi=>?_⟩
  cases i with
  | zero=>exact h.1
  | succ i=>exact h2 i (by simpa using hi)
theorem DM{e:TypeId}{g:Nat}{cs:Array Value}{ys:List α}(css:List (List Value))(hcs:cs.toList=css.flatten)(hle:ys.length≤lim)(hrd:zN T Γ css ys):
  Own T Γ e [(g,.cells cs e (0,0))] (some ⟨g,0,none⟩) ys.length ys:=Own.of_block css hcs (qi hrd).1 hle (qi hrd).2
end
def intT:Ty Int where
 n:=1
 pos:=by decide
 rd:=λ_ cs x=>cs = [.int .i64 x]∧I64 x
 len:=by rintro Γ cs x ⟨rfl,_⟩; rfl
 one:=by rintro Γ cs x ⟨rfl,_⟩ u hu; simp at hu; subst hu; rfl
 mono:=λh _=>h
def u64T:Ty Int where
 n:=1
 pos:=by decide
 rd:=λ_ cs x=>cs = [.int .u64 x]∧U64 x
 len:=by rintro Γ cs x ⟨rfl,_⟩; rfl
 one:=by rintro Γ cs x ⟨rfl,_⟩ u hu; simp at hu; subst hu; rfl
 mono:=λh _=>h
def au:Ty UInt8 where
 n:=1
 pos:=by decide
 rd:=λ_ cs x=>cs = [.int .u8 (x.toNat:Int)]
 len:=by rintro Γ cs x rfl; rfl
 one:=by rintro Γ cs x rfl u hu; simp at hu; subst hu; rfl
 mono:=λh _=>h
def CU:Ty Bool where
 n:=1
 pos:=by decide
 rd:=λ_ cs x=>cs = [.bool x]
 len:=by rintro Γ cs x rfl; rfl
 one:=by rintro Γ cs x rfl u hu; simp at hu; subst hu; rfl
 mono:=λh _=>h
def strT:Ty ByteArray where
 n:=1
 pos:=by decide
 rd:=λ_ cs x=>cs = [.string x]∧x.size≤lim
 len:=by rintro Γ cs x ⟨rfl,_⟩; rfl
 one:=by rintro Γ cs x ⟨rfl,_⟩ u hu; simp at hu; subst hu; rfl
 mono:=λh _=>h
def slT{α:Type}[Inhabited α](T:Ty α):Ty (List α) where
 n:=1
 pos:=by decide
 rd:=λΓ cs xs => ∃A c,cs = [.slice A xs.length c]∧xs.length≤c∧Sl T Γ A xs
 len:=by rintro Γ cs x ⟨A,c,rfl,_⟩; rfl
 one:=by rintro Γ cs x ⟨A,c,rfl,_⟩ u hu; simp at hu; subst hu; rfl
 mono:=by rintro Γ Δ cs x ⟨A,c,rfl,h1,h2⟩ hs; exact⟨A,c,rfl,h1,h2.mono hs⟩
section
variable {α:Type} [Inhabited α] {Γ:Gh} {A:Option Addr} {e:TypeId} {row:Rowb} {c i:Nat}
theorem Sl.intT_at{xs:List Int}(h:Sl intT Γ A xs)(hi:i<xs.length):I64 (gt xs i)∧eQ Γ A (i*1) [.int .i64 (gt xs i)]:=by
 obtain⟨cs,⟨rfl,hr⟩,h2⟩:=h.get i hi; exact⟨hr,h2⟩
theorem Sl.byteT_at{xs:List UInt8}(h:Sl au Γ A xs)(hi:i<xs.length):True∧eQ Γ A (i*1) [.int .u8 (((gt xs i).toNat:Nat):Int)]:=by
 obtain⟨cs,hr,h2⟩:=h.get i hi; cases (show cs=_ from hr); exact⟨trivial,h2⟩
theorem Sl.strT_at{xs:List ByteArray}(h:Sl strT Γ A xs)(hi:i<xs.length):(gt xs i).size≤lim∧eQ Γ A (i*1) [.string (gt xs i)]:=by
 obtain⟨cs,⟨rfl,hr⟩,h2⟩:=h.get i hi; exact⟨hr,h2⟩
theorem Sl.slT_at{T:Ty α}{xs:List (List α)}(h:Sl (slT T) Γ A xs)(i:Nat):∃A' c',i<xs.length→((gt xs i).length≤c'∧Sl T Γ A' (gt xs i))∧eQ Γ A (i*1) [.slice A' (gt xs i).length c']:=by
 by_cases hi:i<xs.length
 ·obtain⟨cs,⟨A',c',rfl,h3,h4⟩,h2⟩:=h.get i hi
  exact⟨A',c',λ_=>⟨⟨h3,h4⟩,h2⟩⟩
 ·exact⟨none,0,λh=>absurd h hi⟩
theorem Own.intT_at{xs:List Int}(h:Own intT Γ e row A c xs)(hi:i<xs.length):I64 (gt xs i)∧k5 row A (i*1) [.int .i64 (gt xs i)]:=by
 obtain⟨cs,⟨rfl,hr⟩,h2⟩:=h.get hi; exact⟨hr,h2⟩
theorem Own.byteT_at{xs:List UInt8}(h:Own au Γ e row A c xs)(hi:i<xs.length):True∧k5 row A (i*1) [.int .u8 (((gt xs i).toNat:Nat):Int)]:=by
 obtain⟨cs,hr,h2⟩:=h.get hi; cases (show cs=_ from hr); exact⟨trivial,h2⟩
theorem Own.strT_at{xs:List ByteArray}(h:Own strT Γ e row A c xs)(hi:i<xs.length):(gt xs i).size≤lim∧k5 row A (i*1) [.string (gt xs i)]:=by
 obtain⟨cs,⟨rfl,hr⟩,h2⟩:=h.get hi; exact⟨hr,h2⟩
theorem Own.slT_at{T:Ty α}{xs:List (List α)}(h:Own (slT T) Γ e row A c xs)(i:Nat):∃A' c',i<xs.length→((gt xs i).length≤c'∧Sl T Γ A' (gt xs i))∧k5 row A (i*1) [.slice A' (gt xs i).length c']:=by
 by_cases hi:i<xs.length
 ·obtain⟨cs,⟨A',c',rfl,h3,h4⟩,h2⟩:=h.get hi
  exact⟨A',c',λ_=>⟨⟨h3,h4⟩,h2⟩⟩
 ·exact⟨none,0,λh=>absurd h hi⟩
end
end Fw
end Go.Proofs.YtgaplodcdhhefaaGreat
