/- What the functions compute, as Lean functions (printed by a program). No condition. -/
import Derived.Test.YtangaamigenjjaaGreatE
import Derived.Test.YtangaamigenjjaaGreatK14
import Derived.Test.YtangaamigenjjaaGreatK15
import Derived.Test.YtangaamigenjjaaGreatK16
import Derived.Test.YtangaamigenjjaaGreatK17
import Derived.Test.YtangaamigenjjaaGreatK18
import Derived.Test.YtangaamigenjjaaGreatK19
import Derived.Test.YtangaamigenjjaaGreatK20
import Derived.Test.YtangaamigenjjaaGreatK23
import Derived.Test.YtangaamigenjjaaGreatK24
import Derived.Test.YtangaamigenjjaaGreatK25
import Derived.Test.YtangaamigenjjaaGreatK26
import Derived.Test.YtangaamigenjjaaGreatK27
import Derived.Test.YtangaamigenjjaaGreatK28
import Derived.Test.YtangaamigenjjaaGreatK30
import Derived.Test.YtangaamigenjjaaGreatK37
import Derived.Test.YtangaamigenjjaaGreatK39
import Derived.Test.YtangaamigenjjaaGreatK40
import Derived.Test.YtangaamigenjjaaGreatK41
import Derived.Test.YtangaamigenjjaaGreatK42
namespace Go.Proofs.YtangaamigenjjaaGreat
namespace Fw
set_option linter.unusedVariables false
set_option linter.unusedSimpArgs false
set_option linter.unusedSectionVars false
open Go.RowKit
structure a7 where
  room:Int
  safe_:(List (ByteArray×(List UInt8)))
  seen:(List (ByteArray×(List UInt8)))
  loose:(List aG)
  deriving Inhabited,DecidableEq
abbrev ao:=(List (List UInt8)×Int)
abbrev af:=(List ByteArray)
structure ah where
  place_name:ByteArray
  place_gen:Int
  size:Int
  last:Int
  tail:Int
  count:Int
  bytes:Int
  deriving Inhabited,DecidableEq
structure aN where
  entry:ai
  want:(List (Int×Bool))
  deriving Inhabited,DecidableEq
abbrev aL:EM aN aC Int Bool:=⟨λx g=>⟨x.entry,g⟩,λx=>x.want,λx l=>{ x with want:=l },λ_ _ _=>rfl,λ_ _=>rfl⟩
structure a6 where
  c_self:Int
  c_sites:Int
  c_links:(List Int)
  c_cap:Int
  c_base:Int
  log:ah
  applied:(List Int)
  under:(Option Rec)
  list:(List aN)
  next:Int
  gaps:(List (Int×Bool))
  members:(List Int)
  deriving Inhabited,DecidableEq
structure am where
  b:(List UInt8)
  at_:Int
  bad:Bool
  deriving Inhabited,DecidableEq
structure aa where
  b:(List UInt8)
  at_:Int
  deriving Inhabited,DecidableEq
structure a8 where
  b:(List UInt8)
  deriving Inhabited,DecidableEq
def k6(room:Int):Option a7:=
 (some (⟨(min (max room 0) 1073741824),([]:List (ByteArray×(List UInt8))),([]:List (ByteArray×(List UInt8))),[]⟩:a7))
def gL: Option aq:=
 (some (⟨1,2,[2],1,0,[1]⟩:aq))
def qi(members:List Int)(f1:Unit→Option Bool)(i2:Nat)(ei2:Int):Unit→Option Bool:=λ_=>
 (chk (imp ((!((decide (ei2<1))||(decide (8<ei2))))&&(decide (0<(i2:Int)))) (inb (w64 ((i2:Int) - 1)) members.length)) (bif (((decide (ei2<1))||(decide (8<ei2)))||((decide (0<(i2:Int)))&&(decide (ei2≤(gt members ((w64 ((i2:Int) - 1)).toNat)))))) then
 (some false)
 else
 (f1 ())))
def ou(members:List Int):Option Bool:=
 (forI (qi members) (λ_=>
 (some (decide (0<(members.length:Int))))) 0 members ())
def lX(c_:aq)(f2:Unit→Option Bool)(i3:Nat)(ei3:Int):Unit→Option Bool:=λ_=>
 (chk (imp ((!(((decide (ei3<1))||(decide (c_.sites<ei3)))||(ei3==c_.self)))&&(decide (0<(i3:Int)))) (inb (w64 ((i3:Int) - 1)) c_.links.length)) (bif ((((decide (ei3<1))||(decide (c_.sites<ei3)))||(ei3==c_.self))||((decide (0<(i3:Int)))&&(decide (ei3≤(gt c_.links ((w64 ((i3:Int) - 1)).toNat)))))) then
 (some false)
 else
 (f2 ())))
def fu(c_:aq):Option Bool:=
 (forI (lX c_) (λ_=>
 (Option.bind (dP ((((((((decide (1≤c_.sites))&&(decide (c_.sites≤16)))&&(decide (1≤c_.self)))&&(decide (c_.self≤c_.sites)))&&(decide (1≤c_.cap)))&&(decide (c_.cap≤65536)))&&(decide (0≤c_.base)))&&(decide (c_.base≤4611686018427387904))) (ou c_.members)) λz57=>(some (((((((((decide (1≤c_.sites))&&(decide (c_.sites≤16)))&&(decide (1≤c_.self)))&&(decide (c_.self≤c_.sites)))&&(decide (1≤c_.cap)))&&(decide (c_.cap≤65536)))&&(decide (0≤c_.base)))&&(decide (c_.base≤4611686018427387904)))&&z57)))) 0 c_.links ())
def cC(s_:ByteArray)(c_:Int):Option Int:=
 (some (ixb s_ c_))
def bj(s_:ByteArray):Option Int:=
 (bif ((⟨#[46]⟩:ByteArray)==s_) then
 (some 0)
 else
 (Option.bind (cC s_ 46) λz2=>(some z2)))
def gY(s_:ByteArray):Option Int:=
 (Option.bind (bj s_) λz1=>(some z1))
def fA(s_:ByteArray):Option Bool:=
 (Option.bind (gY s_) λz1=>(some (decide (0≤z1))))
def eM(p__1:ByteArray)(p__2:Int):Option ByteArray:=
 (some (p__1++(⟨#[46,109]⟩:ByteArray)))
def cd(s_:List UInt8):Option (List UInt8):=
 (nilc s_.isEmpty (
 (some []))
 ((chk (decide (0+s_.length≤lim)) (some (([]:List UInt8)++s_)))))
def dJ(d:a7)(name:ByteArray):Option ((List UInt8)×Bool):=
 (Option.bind (cd ((mget name d.seen).getD [])) λz9=>(some (z9,((mget name d.seen).isSome))))
def jK(e_6:Int):Option (Int×Int×Int):=
 (some (0,0,e_6))
def j5(b:List UInt8)(at_:Int)(n_9:Int)(f10:Int→Option (Int×Int×Int))(i11:Nat)(x_17:Bool):Option (Int×Int×Int):=
 (bif x_17 then
 (jK 2)
 else
 (bif (decide ((((gt (List.drop at_.toNat b) i11).toNat:Nat):Int)<128)) then
 (chk (decide (0≤(w64 (7*(i11:Int))))) (some ((w64 (ior .u64 n_9 (ishl .u64 (wu64 (((gt (List.drop at_.toNat b) i11).toNat:Nat):Int)) (w64 (7*(i11:Int)))))),(w64 ((w64 (at_+(i11:Int)))+1)),0)))
 else
 (chk (decide (0≤(w64 (7*(i11:Int))))) (f10 (ior .u64 n_9 (ishl .u64 (wu64 (iand .u8 (((gt (List.drop at_.toNat b) i11).toNat:Nat):Int) 127)) (w64 (7*(i11:Int)))))))))
def je(b:List UInt8)(at_:Int)(f10:Int→Option (Int×Int×Int))(i11:Nat)(ei11:UInt8):Int→Option (Int×Int×Int):=λn_9=>
 (bif (((i11:Int)==8)&&(decide (127<(ei11.toNat:Int)))) then
 (j5 b at_ n_9 f10 i11 (((i11:Int)==8)&&(decide (127<(ei11.toNat:Int)))))
 else
 (j5 b at_ n_9 f10 i11 ((decide (0<(i11:Int)))&&((ei11.toNat:Int)==0))))
def fN(b:List UInt8)(at_:Int):Option (Int×Int×Int):=
 (bif ((decide (at_<0))||(decide ((b.length:Int)<at_))) then
 (some (0,0,1))
 else
 (chk (inle at_ b.length) (forI (je b at_) (λn_9=>
 (jK 4)) 0 (List.drop at_.toNat b) 0)))
def gX(f21:Int→Option Int)(i22:Nat):Int→Option Int:=λr_20=>
 (f21 (ixor .u32 (ishr .u32 r_20 1) (iand .u32 3988292384 (wu32 (0 - (iand .u32 r_20 1))))))
def ia(f13:Int→Option Int)(i14:Nat)(ei14:UInt8):Int→Option Int:=λr_12=>
 (forU (gX) (λr_20=>
 (f13 r_20)) 8 0 (ixor .u32 r_12 (wu32 (ei14.toNat:Int))))
def jA(f2:Int→Option Int)(i3:Nat)(ei3:(List UInt8)):Int→Option Int:=λr_1=>
 (forI (ia) (λr_12=>
 (f2 r_12)) 0 ei3 r_1)
def jt(parts:List (List UInt8)):Option Int:=
 (forI (jA) (λr_1=>
 (some (icom .u32 r_1))) 0 parts 4294967295)
def jz(b:List UInt8)(z1:Int×Int×Int)(z15:Int)(f17:Unit→Option ((List UInt8)×Int×Int))(i18:Nat):Unit→Option ((List UInt8)×Int×Int):=λ_=>
 (chk (inb (w64 (z1.2.1+(i18:Int))) b.length) (chk (decide (0≤(w64 (8*(i18:Int))))) (bif ((((gt b ((w64 (z1.2.1+(i18:Int))).toNat)).toNat:Nat):Int) != (wu8 (ishr .u32 z15 (w64 (8*(i18:Int)))))) then
 (some ([],0,20))
 else
 (f17 ()))))
def jI(b:List UInt8)(at_:Int):Option ((List UInt8)×Int×Int):=
 (Option.bind (fN b at_) λz1=>(bif (z1.2.2 != 0) then
 (chk (i64b z1.2.2) (some ([],0,z1.2.2)))
 else
 (bif (decide (1048576<z1.1)) then
 (some ([],0,3))
 else
 (bif (decide ((w64 ((b.length:Int) - z1.2.1))<(w64 (z1.1+4)))) then
 (some ([],0,4))
 else
 (chk (inle (w64 ((w64 (z1.2.1+4))+z1.1)) b.length) (chk (decide (0≤(w64 (z1.2.1+4)))) (chk (decide ((w64 (z1.2.1+4)).toNat≤(w64 ((w64 (z1.2.1+4))+z1.1)).toNat)) (chk (inle z1.2.1 b.length) (chk (decide (0≤at_)) (chk (decide (at_.toNat≤z1.2.1.toNat)) (Option.bind (jt [(List.drop at_.toNat (List.take z1.2.1.toNat b)),(List.drop ((w64 (z1.2.1+4)).toNat) (List.take ((w64 ((w64 (z1.2.1+4))+z1.1)).toNat) b))]) λz15=>(forU (jz b z1 z15) (λ_=>
 (chk (decide (0+(List.drop ((w64 (z1.2.1+4)).toNat) (List.take ((w64 ((w64 (z1.2.1+4))+z1.1)).toNat) b)).length≤lim)) (some ((([]:List UInt8)++(List.drop ((w64 (z1.2.1+4)).toNat) (List.take ((w64 ((w64 (z1.2.1+4))+z1.1)).toNat) b))),(w64 ((w64 (z1.2.1+4))+z1.1)),0)))) 4 0 ()))))))))))))
def cF(Y:ao→List UInt8→Int→Option ao)(b0v:List UInt8)(f10:Int×Int×ao→Option (ao×Int)):Int×Int×ao→Option (ao×Int):=λ(at_3,x5,o7)=>
 (bif (decide (at_3<(b0v.length:Int))) then
 (Option.bind (jI b0v at_3) λz15=>(bif (!(z15.2.2 != 0)) then
 (Option.bind (Y o7 z15.1 z15.2.1) λz36=>(f10 (z15.2.1,z15.2.2,z36)))
 else
 (some (o7,z15.2.2))))
 else
 (some (o7,x5)))
def iT(Y:ao→List UInt8→Int→Option ao)(sY:ao)(b0v:List UInt8)(b1v:Int):Option (ao×Int):=
 (loopN (cF Y b0v) FU (0,b1v,sY))
def eG(s:ao)(b:List UInt8)(n:Int):Option ao:=chk (decide (s.1.length+1≤lim)) (some (s.1++[b],n))
def jp(b:List UInt8):Option (List (List UInt8)×Int×Int):=Option.bind (iT eG ([],0) b 0) λz=>some (z.1.1,z.1.2,z.2)
def fe(f34:Int→Option (Int×Int×Int))(i35:Nat)(ei35:(List UInt8)):Int→Option (Int×Int×Int):=λgen_33=>
 (Option.bind (fN ei35 0) λz44=>(bif ((((z44.2.2 != 0)||(z44.2.1 != (ei35.length:Int)))||(decide (z44.1<1)))||(decide (999999<z44.1))) then
 (some (0,0,2))
 else
 (f34 z44.1)))
def m_seglog_place_holds(p__1:ByteArray)(p__2:Int)(dk0:a7):Option (Int×Int×Int):=
 (Option.bind (eM p__1 p__2) λz3=>(chk (decide (z3.size≤lim)) (Option.bind (dJ dk0 z3) λz6=>(Option.bind (jp z6.1) λz21=>(forI (fe) (λgen_33=>
 (chk (i64b gen_33) (some (gen_33,z21.2.1,0)))) 0 z21.1 0)))))
def fV(d:a7):Option Int:=
 (some (d.loose.length:Int))
def lS(f1:Unit→Option Bool)(i2:Nat)(ei2:ByteArray):Unit→Option Bool:=λ_=>
 (bif ((decide ((ei2.size:Int)<1))||(decide (16<(ei2.size:Int)))) then
 (some false)
 else
 (f1 ()))
def iK(names:List ByteArray):Option Bool:=
 (forI (lS) (λ_=>
 (some true)) 0 names ())
def eC(d:a7)(name:ByteArray):Option Int:=
 (Option.bind (iK [name]) λz3=>(bif (!z3) then
 (some 70)
 else
 (bif (!((mget name d.seen).isSome)) then
 (some 71)
 else
 (some 0))))
def gh(f_:List (ByteArray×(List UInt8)))(b0:ByteArray)(b1:Int):Option (List (ByteArray×(List UInt8))):=
 (chk (inle b1 (((mget b0 f_).getD []).length)) (some (mput b0 (List.take b1.toNat ((mget b0 f_).getD [])) f_)))
def jv(f_:List (ByteArray×(List UInt8)))(b0:ByteArray):Option (List (ByteArray×(List UInt8))):=
 (some (mdel b0 f_))
def fc(s_:List UInt8):Option (List UInt8):=
 (some s_)
def jG(f_:List (ByteArray×(List UInt8)))(b0:ByteArray)(b1:(List UInt8)):Option (List (ByteArray×(List UInt8))):=
 (Option.bind (fc ((mget b0 f_).getD [])) λz9=>(chk (decide (((mget b0 f_).getD []).length+b1.length≤lim)) (some (mput b0 (((mget b0 f_).getD [])++b1) f_))))
def ft(x:aj)(f_:List (ByteArray×(List UInt8))):Option (List (ByteArray×(List UInt8))):=
  match x with
  | .disk_Disk_Cut_1 a0 a1=>gh f_ a0 a1
  | .disk_Disk_Remove_1 a0=>jv f_ a0
  | .disk_add_1 a0 a1=>jG f_ a0 a1
def dI(d:a7)(c_:aG):Option (a7×Int):=
 (Option.bind (ft c_.do_ d.seen) λz4=>(chk (decide (d.loose.length+1≤lim)) (some ((⟨d.room,d.safe_,z4,(d.loose++[c_])⟩:a7),0))))
def hQ(d:a7)(name:ByteArray)(n:Int):Option (a7×Int):=
 (Option.bind (eC d name) λz3=>(bif (z3 != 0) then
 (chk (i64b z3) (some (d,z3)))
 else
 (bif ((decide (n<0))||(decide (((((mget name d.seen).getD []).length:Nat):Int)<n))) then
 (some (d,1))
 else
 (Option.bind (dI d (⟨(aj.disk_Disk_Cut_1 name n),ByteArray.empty,[]⟩:aG)) λz36=>(some (z36.1,z36.2))))))
def cy(p__1:ByteArray)(p__2:Int)(f_:ByteArray)(n:Int)(dk0:a7):Option a7:=
 (Option.bind (dJ dk0 f_) λz2=>(bif (decide (n<(z2.1.length:Int))) then
 (Option.bind (hQ dk0 f_ n) λz13=>(some z13.1))
 else
 (some dk0)))
def fZ(d:a7):Option (List ByteArray):=
 (chk (decide (d.seen.length≤lim)) (some (fH d.seen)))
def cv(s_:ByteArray)(prefix_:ByteArray):Option Bool:=
 (chk (imp (decide ((prefix_.size:Int)≤(s_.size:Int))) (decide (prefix_.size≤s_.size))) (some ((decide ((prefix_.size:Int)≤(s_.size:Int)))&&((s_.extract 0 prefix_.size)==prefix_))))
def cA(s_:ByteArray)(prefix_:ByteArray):Option (ByteArray×Bool):=
 (Option.bind (cv s_ prefix_) λz1=>(bif (!z1) then
 (some (s_,false))
 else
 (chk (decide (prefix_.size≤s_.size)) (some ((s_.extract prefix_.size s_.size),true)))))
def eJ(s_:ByteArray)(prefix_:ByteArray):Option (ByteArray×Bool):=
 (Option.bind (cA s_ prefix_) λz1=>(some (z1.1,z1.2)))
def dK(s_:ByteArray):Option (ByteArray×ByteArray×Bool):=
 (Option.bind (bj s_) λz1=>(bif (decide (0≤z1)) then
 (chk (inle z1 s_.size) (chk (inle (w64 (z1+1)) s_.size) (some ((s_.extract 0 z1.toNat),(s_.extract ((w64 (z1+1)).toNat) s_.size),true))))
 else
 (some (s_,ByteArray.empty,false))))
def jb(s_:ByteArray):Option (ByteArray×ByteArray×Bool):=
 (Option.bind (dK s_) λz1=>(some (z1.1,z1.2.1,z1.2.2)))
def eF(f22:Int→Option (Int×Int))(i23:Nat)(ei23:UInt8):Int→Option (Int×Int):=λn_20=>
 (bif ((decide ((ei23.toNat:Int)<48))||(decide (57<(ei23.toNat:Int)))) then
 (some (0,2))
 else
 (f22 (wu64 ((wu64 (10*n_20))+(wu64 (wu8 ((ei23.toNat:Int) - 48)))))))
def gn(s_:ByteArray):Option (Int×Int):=
 (chk (imp ((!(s_==ByteArray.empty))&&(decide (1<(s_.size:Int)))) (decide (0<s_.size))) (bif (((s_==ByteArray.empty)||((decide (1<(s_.size:Int)))&&((((gt s_.data.toList 0).toNat:Nat):Int)==48)))||(decide (19<(s_.size:Int)))) then
 (some (0,2))
 else
 (forI (eF) (λn_20=>
 (bif (decide (9223372036854775808≤n_20)) then
 (some (0,2))
 else
 (some ((w64 n_20),0)))) 0 (s_.data.toList) 0)))
def bU(Y:af→ByteArray→Int→Int→Option af)(b0v1:ByteArray)(f16:af→Option af)(i17:Nat)(ei17:ByteArray):af→Option af:=λo13=>
 (chk (decide ((b0v1++(⟨#[46]⟩:ByteArray)).size≤lim)) (Option.bind (eJ ei17 (b0v1++(⟨#[46]⟩:ByteArray))) λz24=>(chk (decide (z24.1.size≤lim)) (Option.bind (jb z24.1) λz27=>(chk (decide (z27.1.size≤lim)) (Option.bind (gn z27.1) λz30=>(chk (decide (z27.2.1.size≤lim)) (Option.bind (gn z27.2.1) λz33=>(bif ((((((z24.2&&z27.2.2)&&(z30.2==0))&&(z33.2==0))&&(decide (z30.1≤999999)))&&(decide (1≤z33.1)))&&(decide (z33.1≤999999))) then
 (chk (i64b z30.1) (chk (i64b z33.1) (Option.bind (Y o13 ei17 z30.1 z33.1) λz54=>(f16 z54))))
 else
 (f16 o13))))))))))
def fo(Y:af→ByteArray→Int→Int→Option af)(sY:af)(b0v0:a7)(b0v1:ByteArray)(b0v2:Int):Option af:=
 (Option.bind (fZ b0v0) λz1=>(forI (bU Y b0v1) (λo13=>
 (some o13)) 0 z1 sY))
def dS(d:a7)(name:ByteArray):Option (a7×Int):=
 (Option.bind (eC d name) λz2=>(bif (z2 != 0) then
 (chk (i64b z2) (some (d,z2)))
 else
 (Option.bind (dI d (⟨(aj.disk_Disk_Remove_1 name),ByteArray.empty,[]⟩:aG)) λz11=>(some (z11.1,z11.2)))))
def cO(pred:Int→Int→Option Bool)(s:af)(f:ByteArray)(g n:Int):Option af:=Option.bind (pred g n) λq=>bif q then chk (decide (s.length+1≤lim)) (some (s++[f])) else some s
def fB(k:a7→Option a7)(i:Nat)(f:ByteArray)(d:a7):Option a7:=Option.bind (dS d f) λz=>k z.1
def cc(d:a7)(name:ByteArray)(gen:Int)(pred:Int→Int→Option Bool):Option a7:=Option.bind (fo (cO pred) [] d name gen) λl=>forI fB some 0 l d
def fF(g_:Int)(a1:Int)(b0v:Int):Option Bool:=
 (some (g_ != b0v))
def fG(at_24:Int)(x26:List UInt8):Option ByteArray:=
 (chk (inle at_24 20) (some (⟨(List.drop at_24.toNat x26).toArray⟩:ByteArray)))
def ce(n:Int)(f14:Int×Int×(List UInt8)→Option ByteArray):Int×Int×(List UInt8)→Option ByteArray:=λ(at_6,u_8,x10)=>
 (bif ((at_6==20)||(decide (0<u_8))) then
 (chk (inb (w64 (at_6 - 1)) 20) (f14 ((w64 (at_6 - 1)),(wu64 (u_8.tdiv 10)),(List.set x10 ((w64 (at_6 - 1)).toNat) (b8 (wu8 (wu64 (48+(u_8.tmod 10)))))))))
 else
 (bif (decide (n<0)) then
 (chk (inb (w64 (at_6 - 1)) 20) (fG (w64 (at_6 - 1)) (List.set x10 ((w64 (at_6 - 1)).toNat) (b8 45))))
 else
 (fG at_6 x10)))
def i6(n:Int)(u_3:Int):Option ByteArray:=
 (loopN (ce n) FU (20,u_3,(List.replicate 20 (b8 0))))
def iy(n:Int):Option ByteArray:=
 (bif (decide (n<0)) then
 (i6 n (wu64 (0 - (wu64 n))))
 else
 (i6 n (wu64 n)))
def cH(p__1:ByteArray)(p__2:Int)(gen:Int)(part:Int):Option ByteArray:=
 (Option.bind (iy gen) λz2=>(chk (decide ((p__1++(⟨#[46]⟩:ByteArray)).size≤lim)) (chk (decide (z2.size≤lim)) (chk (decide (((p__1++(⟨#[46]⟩:ByteArray))++z2).size≤lim)) (Option.bind (iy part) λz7=>(chk (decide ((((p__1++(⟨#[46]⟩:ByteArray))++z2)++(⟨#[46]⟩:ByteArray)).size≤lim)) (chk (decide (z7.size≤lim)) (some ((((p__1++(⟨#[46]⟩:ByteArray))++z2)++(⟨#[46]⟩:ByteArray))++z7)))))))))
def cZ(out_3:List (List UInt8))(o8:ah)(o11:a7):Option (ah×a7×(List (List UInt8))):=
 (some ((⟨o8.place_name,o8.place_gen,o8.size,o8.last,o8.tail,(out_3.length:Int),o8.bytes⟩:ah),o11,out_3))
def bC(f28:(List (List UInt8))×Bool×ah×a7→Option (ah×a7×(List (List UInt8)))):(List (List UInt8))×Bool×ah×a7→Option (ah×a7×(List (List UInt8))):=λ(out_16,whole_21,o22,o25)=>
 (bif (whole_21&&(decide (o22.last<999999))) then
 (Option.bind (cH o22.place_name o22.place_gen o22.place_gen (w64 (o22.last+1))) λz40=>(chk (decide (z40.size≤lim)) (Option.bind (dJ o25 z40) λz43=>(bif (!z43.2) then
 (cZ out_16 o22 o25)
 else
 (Option.bind (jp z43.1) λz60=>(Option.bind (cy o22.place_name o22.place_gen z40 z60.2.1 o25) λz72=>(chk (decide (out_16.length+z60.1.length≤lim)) (f28 ((out_16++z60.1),(z60.2.1==(z43.1.length:Int)),(⟨o22.place_name,o22.place_gen,o22.size,(w64 (o22.last+1)),z60.2.1,o22.count,(w64 (o22.bytes+z60.2.1))⟩:ah),z72)))))))))
 else
 (cZ out_16 o22 o25))
def gi(l:ah)(dk0:a7):Option (ah×a7×(List (List UInt8))):=
 (loopN (bC) FU ([],true,l,dk0))
def hM(a0:Int)(n:Int)(b0v:ah):Option Bool:=
 (some (decide (b0v.last<n)))
def gH(d:a7):Option a7:=
 (some (⟨d.room,d.seen,d.seen,[]⟩:a7))
def eW(z48:ah×a7×(List (List UInt8)))(o74:a7):Option (a7×(Option ah)×(List (List UInt8))×Int):=
 (some (o74,(some z48.1),z48.2.2,0))
def fO(d:a7)(name:ByteArray)(size:Int):Option (a7×(Option ah)×(List (List UInt8))×Int):=
 (Option.bind (dP (!((decide ((name.size:Int)<1))||(decide (2<(name.size:Int))))) (fA name)) λz6=>(bif (((decide ((name.size:Int)<1))||(decide (2<(name.size:Int))))||z6) then
 (some (d,none,[],1))
 else
 (Option.bind (m_seglog_place_holds name 0 d) λz10=>(bif (z10.2.2 != 0) then
 (some (d,none,[],z10.2.2))
 else
 (Option.bind (fV d) λz21=>(Option.bind (eM name z10.1) λz24=>(chk (decide (z24.size≤lim)) (Option.bind (cy name z10.1 z24 z10.2.1 d) λz27=>(Option.bind (cc z27 name z10.1 (λx y=>fF x y z10.1)) λz37=>(Option.bind (gi (⟨name,z10.1,(max size 16),0,0,0,0⟩:ah) z37) λz48=>(Option.bind (cc z48.2.1 name z10.1 (λx y=>hM x y z48.1)) λz64=>(Option.bind (fV z64) λz77=>(bif (z77 != z21) then
 (Option.bind (gH z64) λz80=>(eW z48 z80))
 else
 (eW z48 z64))))))))))))))
def bm(s_:List Int):Option (List Int):=
 (nilc s_.isEmpty (
 (some []))
 ((chk (decide (0+s_.length≤lim)) (some (([]:List Int)++s_)))))
def bF(r_:am):Option (am×Int):=
 (Option.bind (fN r_.b r_.at_) λz2=>(bif ((z2.2.2 != 0)||r_.bad) then
 (some ((⟨r_.b,r_.at_,true⟩:am),0))
 else
 (chk (i64b z2.2.1) (chk (i64b z2.1) (some ((⟨r_.b,z2.2.1,r_.bad⟩:am),z2.1))))))
def o6(b:List UInt8)(at_:Int)(most:Int):Option (ByteArray×Int×Int):=
 (Option.bind (fN b at_) λz1=>(bif (z1.2.2 != 0) then
 (some (ByteArray.empty,0,z1.2.2))
 else
 (bif (decide ((max most 0)<z1.1)) then
 (some (ByteArray.empty,0,3))
 else
 (bif (decide ((w64 ((b.length:Int) - z1.2.1))<z1.1)) then
 (some (ByteArray.empty,0,4))
 else
 (chk (inle (w64 (z1.2.1+z1.1)) b.length) (chk (decide (0≤z1.2.1)) (chk (decide (z1.2.1.toNat≤(w64 (z1.2.1+z1.1)).toNat)) (some ((⟨(List.drop z1.2.1.toNat (List.take ((w64 (z1.2.1+z1.1)).toNat) b)).toArray⟩:ByteArray),(w64 (z1.2.1+z1.1)),0)))))))))
def fU(r_:aa)(z2:ByteArray×Int×Int): Option (Option (aa×ByteArray)):=
 (chk (i64b z2.2.1) (chk (decide (z2.1.size≤lim)) (some (some ((⟨r_.b,z2.2.1⟩:aa),z2.1)))))
def dL(r_:aa):Option (Option (aa×ByteArray)):=
 (Option.bind (o6 r_.b r_.at_ (r_.b.length:Int)) λz2=>(bif (z2.2.2 != 0) then
 (some none)
 else
 (fU r_ z2 )))
def gF(r_:aa)(z2:Int×Int×Int): Option (Option (aa×Int)):=
 (chk (i64b z2.2.1) (chk (i64b z2.1) (some (some ((⟨r_.b,z2.2.1⟩:aa),z2.1)))))
def bx(r_:aa):Option (Option (aa×Int)):=
 (Option.bind (fN r_.b r_.at_) λz2=>(bif (z2.2.2 != 0) then
 (some none)
 else
 (gF r_ z2 )))
def ek(r_:aa):Option (Option (aa×Int)):=
 (Option.bind (bx r_) λz1=>(optm z1
 (some none)
 λo3=>
 (some (some (o3.1,o3.2)))))
def fR(x29:Span)(o31:aa): Option (Option (aa×Span)):=
 (some (some (o31,x29)))
def fQ(x29:Span)(o31:aa):Option (Option (aa×Span)):=
 (bif (decide (x29.t<x29.f)) then
 (some none)
 else
 (fR x29 o31 ))
def fp(r_:aa):Option (Option (aa×Span)):=
 (Option.bind (ek r_) λz2=>(optm z2
 (some none)
 λo4=>
 (Option.bind (bx o4.1) λz15=>(optm z15
 (some none)
 λo17=>
 (Option.bind (bx o17.1) λz35=>(optm z35
 (some none)
 λo37=>
 (fQ (⟨o4.2,o17.2,(w64 (o17.2+o37.2))⟩:Span) o37.1)))))))
def bK(f28:(List Span)×aa→Option (Option (aa×(List Span))))(i29:Nat):(List Span)×aa→Option (Option (aa×(List Span))):=λ(out_20,o25)=>
 (Option.bind (fp o25) λz35=>(optm z35
 (some none)
 λo37=>
 (chk (decide (out_20.length+1≤lim)) (f28 ((out_20++[o37.2]),o37.1)))))
def eR(o3:aa×Int): Option (Option (aa×(List Span))):=
 (forU (bK) (λ(out_20,o25)=>
 (some (some (o25,out_20)))) o3.2.toNat 0 ([],o3.1))
def eB(r_:aa):Option (Option (aa×(List Span))):=
 (Option.bind (bx r_) λz1=>(optm z1
 (some none)
 λo3=>
 (bif (decide ((w64 ((o3.1.b.length:Int) - o3.1.at_))<o3.2)) then
 (some none)
 else
 (eR o3 ))))
def eo(o4:aa×Int)(o17:aa×Int)(o29:aa×(List Span))(x44:Bool)(x45:ByteArray)(o47:aa):Option (Option (aa×Ver)):=
 (some (some (o47,(⟨(⟨o4.2,o17.2⟩:Dot),o29.2,x44,x45⟩:Ver))))
def gg(r_:aa):Option (Option (aa×Ver)):=
 (Option.bind (ek r_) λz2=>(optm z2
 (some none)
 λo4=>
 (Option.bind (bx o4.1) λz15=>(optm z15
 (some none)
 λo17=>
 (Option.bind (eB o17.1) λz27=>(optm z27
 (some none)
 λo29=>
 (Option.bind (bx o29.1) λz50=>(optm z50
 (some none)
 λo52=>
 (bif (o52.2==0) then
 (Option.bind (dL o52.1) λz63=>(optm z63
 (some none)
 λo65=>
 (eo o4 o17 o29 false o65.2 o65.1)))
 else
 (bif (o52.2==1) then
 (eo o4 o17 o29 true ByteArray.empty o52.1)
 else
 (some none)))))))))))
def bQ(f28:(List Ver)×aa→Option (Option (aa×(List Ver))))(i29:Nat):(List Ver)×aa→Option (Option (aa×(List Ver))):=λ(out_20,o25)=>
 (Option.bind (gg o25) λz35=>(optm z35
 (some none)
 λo37=>
 (chk (decide (out_20.length+1≤lim)) (f28 ((out_20++[o37.2]),o37.1)))))
def fD(o3:aa×Int): Option (Option (aa×(List Ver))):=
 (forU (bQ) (λ(out_20,o25)=>
 (some (some (o25,out_20)))) o3.2.toNat 0 ([],o3.1))
def eL(r_:aa):Option (Option (aa×(List Ver))):=
 (Option.bind (bx r_) λz1=>(optm z1
 (some none)
 λo3=>
 (bif (decide ((w64 ((o3.1.b.length:Int) - o3.1.at_))<o3.2)) then
 (some none)
 else
 (fD o3 ))))
def fW(r_:aa):Option (Option (aa×Rec)):=
 (Option.bind (dL r_) λz2=>(optm z2
 (some none)
 λo4=>
 (Option.bind (eL o4.1) λz14=>(optm z14
 (some none)
 λo16=>
 (some (some (o16.1,(⟨o4.2,o16.2⟩:Rec))))))))
def fC(b0v0:ByteArray)(b0v1:List Ver)(b1v:Int):Option (ByteArray×(List Ver)×Int):=
 (some (ByteArray.empty,[],2))
def lW(f4:Span→Option Bool)(i5:Nat)(ei5:Span):Span→Option Bool:=λx2=>
 (bif (((((((decide (ei5.s<1))||(decide (16<ei5.s)))||(decide (ei5.f<1)))||(decide (ei5.t<ei5.f)))||(decide (4611686018427387904<ei5.t)))||(decide (ei5.s<x2.s)))||((ei5.s==x2.s)&&(decide (ei5.f≤(w64 (x2.t+1)))))) then
 (some false)
 else
 (f4 ei5))
def iw(l:List Span):Option Bool:=
 (forI (lW) (λx2=>
 (some (decide ((l.length:Int)≤1024)))) 0 l (⟨0,0,0⟩:Span))
def jd(f3:Int→Option Int)(top_10:Int):Option Int:=
 (f3 top_10)
def kR(s_:Int)(f3:Int→Option Int)(i4:Nat)(ei4:Span):Int→Option Int:=λtop_1=>
 (bif (ei4.s==s_) then
 (jd f3 (max top_1 ei4.t))
 else
 (jd f3 top_1))
def lM(l:List Span)(s_:Int):Option Int:=
 (forI (kR s_) (λtop_1=>
 (some top_1)) 0 l 0)
def i7(v_:Ver):Option Bool:=
 (Option.bind (iw [(⟨v_.dot.s,v_.dot.n,v_.dot.n⟩:Span)]) λz6=>(Option.bind (dP z6 (iw v_.past)) λz11=>(Option.bind (dP (z6&&z11) (lM v_.past v_.dot.s)) λz22=>(some ((((z6&&z11)&&(decide (z22<v_.dot.n)))&&(decide ((v_.val.size:Int)≤256)))&&((!v_.gone)||(v_.val==ByteArray.empty)))))))
def kP(a:Dot)(b:Dot):Option Bool:=
 (some ((decide (a.s<b.s))||((a.s==b.s)&&(decide (a.n<b.n)))))
def kL(d:Dot)(f2:Unit→Option Bool)(i3:Nat)(ei3:Span):Unit→Option Bool:=λ_=>
 (bif (((ei3.s==d.s)&&(decide (ei3.f≤d.n)))&&(decide (d.n≤ei3.t))) then
 (some true)
 else
 (f2 ()))
def nS(l:List Span)(d:Dot):Option Bool:=
 (forI (kL d) (λ_=>
 (some false)) 0 l ())
def iR(d:Dot)(f2:Unit→Option Bool)(i3:Nat)(ei3:Ver):Unit→Option Bool:=λ_=>
 (Option.bind (nS (ei3.past) d) λz13=>(bif z13 then
 (some true)
 else
 (f2 ())))
def jc(d:Dot)(l:List Ver):Option Bool:=
 (forI (iR d) (λ_=>
 (some false)) 0 l ())
def lT(l:List Ver)(f1:Unit→Option Bool)(i2:Nat)(ei2:Ver):Unit→Option Bool:=λ_=>
 (Option.bind (i7 ei2) λz12=>(chk (imp ((!(!z12))&&(decide (0<(i2:Int)))) (inb (w64 ((i2:Int) - 1)) l.length)) (Option.bind (dP ((!(!z12))&&(decide (0<(i2:Int)))) (kP ((gt l ((w64 ((i2:Int) - 1)).toNat)).dot) (ei2.dot))) λz30=>(Option.bind (dP (!((!z12)||((decide (0<(i2:Int)))&&(!z30)))) (jc (ei2.dot) l)) λz38=>(bif (((!z12)||((decide (0<(i2:Int)))&&(!z30)))||z38) then
 (some false)
 else
 (f1 ()))))))
def jL(l:List Ver):Option Bool:=
 (forI (lT l) (λ_=>
 (some (decide ((l.length:Int)≤512)))) 0 l ())
def az(r_:Rec):Option Bool:=
 (Option.bind (dP ((decide (1≤(r_.key.size:Int)))&&(decide ((r_.key.size:Int)≤32))) (jL r_.vers)) λz9=>(some (((decide (1≤(r_.key.size:Int)))&&(decide ((r_.key.size:Int)≤32)))&&z9)))
def fa(o7:aa×Rec): Option (Rec×Int):=
 (some (o7.2,0))
def gG(b:List UInt8):Option (Rec×Int):=
 (Option.bind (fW (⟨b,0⟩:aa)) λz5=>(optm z5
 (Option.bind (fC ByteArray.empty [] 0) λz10=>(some ((⟨z10.1,z10.2.1⟩:Rec),z10.2.2)))
 λo7=>
 (Option.bind (dP (!(o7.1.at_ != (b.length:Int))) (az o7.2)) λz35=>(bif ((o7.1.at_ != (b.length:Int))||(!z35)) then
 (Option.bind (fC o7.2.key o7.2.vers 0) λz41=>(some ((⟨z41.1,z41.2.1⟩:Rec),z41.2.2)))
 else
 (fa o7 )))))
def kg(b:List UInt8):Option (Rec×Int):=
 (Option.bind (gG b) λz2=>(some (z2.1,z2.2)))
def dV(r_:am):Option (am×Rec):=
 (chk (inle (min r_.at_ (r_.b.length:Int)) r_.b.length) (Option.bind (kg (List.drop ((min r_.at_ (r_.b.length:Int)).toNat) r_.b)) λz5=>(some ((⟨r_.b,(r_.b.length:Int),(r_.bad||(z5.2 != 0))⟩:am),z5.1))))
def cI(f24:(List Int)×am→Option (am×(List Int)))(i25:Nat):(List Int)×am→Option (am×(List Int)):=λ(out_16,o21)=>
 (Option.bind (bF o21) λz31=>(chk (decide (out_16.length+1≤lim)) (f24 ((out_16++[z31.2]),z31.1))))
def gN(r_:am):Option (am×(List Int)):=
 (Option.bind (bF r_) λz1=>(bif (decide ((w64 ((z1.1.b.length:Int) - z1.1.at_))<z1.2)) then
 (some ((⟨z1.1.b,z1.1.at_,true⟩:am),[]))
 else
 (forU (cI) (λ(out_16,o21)=>
 (some (o21,out_16))) z1.2.toNat 0 ([],z1.1))))
inductive ak where
  | nil
  | queue_issue (x:ar)
  | queue_did (x:ae)
  | queue_ack (x:al)
  | queue_clear (x:ax)
  deriving Inhabited
def ak.el{R:Type}(z:ak)(f0:Option R)(f1:ar→Option R)(f2:ae→Option R)(f3:al→Option R)(f4:ax→Option R):Option R:=match z with
  | .nil=>f0
  | .queue_issue x=>f1 x
  | .queue_did x=>f2 x
  | .queue_ack x=>f3 x
  | .queue_clear x=>f4 x
theorem ak.e_nil{R:Type}{z:ak}{f0:Option R}{f1:ar→Option R}{f2:ae→Option R}{f3:al→Option R}{f4:ax→Option R}{r:R}(ho:z = .nil)(h:ak.el z f0 f1 f2 f3 f4=some r):f0=some r:=by subst ho; exact h
theorem ak.e_queue_issue{R:Type}{z:ak}{x:ar}{f0:Option R}{f1:ar→Option R}{f2:ae→Option R}{f3:al→Option R}{f4:ax→Option R}{r:R}(ho:z = .queue_issue x)(h:ak.el z f0 f1 f2 f3 f4=some r):f1 x=some r:=by subst ho; exact h
theorem ak.e_queue_did{R:Type}{z:ak}{x:ae}{f0:Option R}{f1:ar→Option R}{f2:ae→Option R}{f3:al→Option R}{f4:ax→Option R}{r:R}(ho:z = .queue_did x)(h:ak.el z f0 f1 f2 f3 f4=some r):f2 x=some r:=by subst ho; exact h
theorem ak.e_queue_ack{R:Type}{z:ak}{x:al}{f0:Option R}{f1:ar→Option R}{f2:ae→Option R}{f3:al→Option R}{f4:ax→Option R}{r:R}(ho:z = .queue_ack x)(h:ak.el z f0 f1 f2 f3 f4=some r):f3 x=some r:=by subst ho; exact h
theorem ak.e_queue_clear{R:Type}{z:ak}{x:ax}{f0:Option R}{f1:ar→Option R}{f2:ae→Option R}{f3:al→Option R}{f4:ax→Option R}{r:R}(ho:z = .queue_clear x)(h:ak.el z f0 f1 f2 f3 f4=some r):f4 x=some r:=by subst ho; exact h
def bu(b:List UInt8):Option (ak×Bool):=
 (Option.bind (bF (⟨b,0,false⟩:am)) λz3=>(bif (z3.2==1) then
 (Option.bind (dV z3.1) λz13=>(some ((ak.queue_issue (⟨(⟨z13.2.key,z13.2.vers⟩:Rec)⟩:ar)),((!z13.1.bad)&&(z13.1.at_==(b.length:Int))))))
 else
 (bif (z3.2==2) then
 (Option.bind (gN z3.1) λz33=>(Option.bind (dV z33.1) λz45=>(some ((ak.queue_did (⟨z33.2,(⟨z45.2.key,z45.2.vers⟩:Rec)⟩:ae)),((!z45.1.bad)&&(z45.1.at_==(b.length:Int)))))))
 else
 (bif (z3.2==3) then
 none
 else
 (bif (z3.2==4) then
 (Option.bind (bF z3.1) λz71=>(Option.bind (bF z71.1) λz80=>(some ((ak.queue_ack (⟨z71.2,z80.2⟩:al)),((!z80.1.bad)&&(z80.1.at_==(b.length:Int)))))))
 else
 (bif (z3.2==5) then
 (Option.bind (bF z3.1) λz98=>(some ((ak.queue_clear (⟨z98.2⟩:ax)),((!z98.1.bad)&&(z98.1.at_==(b.length:Int))))))
 else
 (bif (z3.2==6) then
 none
 else
 (bif (z3.2==7) then
 none
 else
 (bif (z3.2==8) then
 none
 else
 (bif (z3.2==9) then
 none
 else
 (some (ak.nil,false))))))))))))
def kw(q:a6):Option Bool:=
 (some false)
def cE(q:a6):Option Unit:=
 (some ())
def fX(q:a6)(r_:Rec):Option Bool:=
 (Option.bind (az r_) λz2=>(chk (imp (z2&&((r_.vers.length:Int)==1)) (decide (0<r_.vers.length))) (some ((z2&&((r_.vers.length:Int)==1))&&(decide ((gt r_.vers 0).dot.s≤q.c_sites))))))
def qf(f1:Unit→Option Bool)(i2:Nat)(ei2:Int):Unit→Option Bool:=λ_=>
 (bif ((decide (ei2<0))||(decide (4611686018427387904<ei2))) then
 (some false)
 else
 (f1 ()))
def oE(v_:List Int):Option Bool:=
 (forI (qf) (λ_=>
 (some ((decide (1≤(v_.length:Int)))&&(decide ((v_.length:Int)≤16))))) 0 v_ ())
def fh(v_:List Int)(s_:Int):Option (Dot×Int):=
 (Option.bind (oE v_) λz2=>(bif (((!z2)||(decide (s_<1)))||(decide ((v_.length:Int)<s_))) then
 (some ((⟨0,0⟩:Dot),1))
 else
 (chk (inb (w64 (s_ - 1)) v_.length) (bif ((gt v_ ((w64 (s_ - 1)).toNat))==4611686018427387904) then
 (some ((⟨0,0⟩:Dot),40))
 else
 (some ((⟨s_,(w64 ((gt v_ ((w64 (s_ - 1)).toNat))+1))⟩:Dot),0))))))
def nD(v_:List Int)(d:Dot):Option Bool:=
 (chk (imp (((decide (1≤d.s))&&(decide (d.s≤(v_.length:Int))))&&(decide (1≤d.n))) (inb (w64 (d.s - 1)) v_.length)) (some ((((decide (1≤d.s))&&(decide (d.s≤(v_.length:Int))))&&(decide (1≤d.n)))&&(decide (d.n≤(gt v_ ((w64 (d.s - 1)).toNat)))))))
def qq(v_:List Int)(f1:Unit→Option Bool)(i2:Nat)(ei2:Span):Unit→Option Bool:=λ_=>
 (Option.bind (nD v_ (⟨ei2.s,ei2.t⟩:Dot)) λz9=>(bif (!z9) then
 (some false)
 else
 (f1 ())))
def oJ(v_:List Int)(l:List Span):Option Bool:=
 (forI (qq v_) (λ_=>
 (some true)) 0 l ())
def du(q:a6)(r_:Rec):Option Bool:=
 (Option.bind (fX q r_) λz2=>(bif (!z2) then
 (some false)
 else
 (chk (decide (0<r_.vers.length)) (Option.bind (fh q.applied ((gt r_.vers 0).dot.s)) λz16=>(Option.bind (dP ((z16.2==0)&&(z16.1==(gt r_.vers 0).dot)) (oJ q.applied ((gt r_.vers 0).past))) λz36=>(some (((z16.2==0)&&(z16.1==(gt r_.vers 0).dot))&&z36)))))))
def bB(q:a6)(x_:ar):Option Bool:=
 (Option.bind (dP (Option.isNone q.under) (du q x_.r)) λz13=>(chk (imp ((Option.isNone q.under)&&z13) (decide (0<x_.r.vers.length))) (some (((Option.isNone q.under)&&z13)&&((gt x_.r.vers 0).dot.s==q.c_self)))))
def aS(q:a6)(x_:ar):Option a6:=
 (some (⟨q.c_self,q.c_sites,q.c_links,q.c_cap,q.c_base,q.log,q.applied,(some x_.r),q.list,q.next,q.gaps,q.members⟩:a6))
def aB(v_:Int)(f1:Unit→Option Int)(i2:Nat)(ei2:Int):Unit→Option Int:=λ_=>
 (bif (v_==ei2) then
 (some (i2:Int))
 else
 (f1 ()))
def dE(s_:List Int)(v_:Int):Option Int:=
 (forI (aB v_) (λ_=>
 (some (-1))) 0 s_ ())
def bi(s_:List Int)(v_:Int):Option Bool:=
 (Option.bind (dE s_ v_) λz1=>(some (decide (0≤z1))))
def iC(q:a6)(l:List Int)(f1:Unit→Option Bool)(i2:Nat)(ei2:Int):Unit→Option Bool:=λ_=>
 (Option.bind (dP (!((decide (ei2<1))||(decide (q.c_sites<ei2)))) (bi (List.take i2 l) ei2)) λz26=>(bif (((decide (ei2<1))||(decide (q.c_sites<ei2)))||z26) then
 (some false)
 else
 (f1 ())))
def bX(q:a6)(l:List Int):Option Bool:=
 (forI (iC q l) (λ_=>
 (some true)) 0 l ())
def qP(b:Ver)(f21:Unit→Option Bool)(i22:Nat)(ei22:Span):Unit→Option Bool:=λ_=>
 (chk (decide (i22<b.past.length)) (bif (ei22 != (gt b.past i22)) then
 (some false)
 else
 (f21 ())))
def kH(a:Ver)(b:Ver):Option Bool:=
 (bif ((((a.dot != b.dot)||(a.gone != b.gone))||(a.val != b.val))||((a.past.length:Int) != (b.past.length:Int))) then
 (some false)
 else
 (forI (qP b) (λ_=>
 (some true)) 0 a.past ()))
def jY(a:List Ver)(b:List Ver)(f1:Unit→Option Bool)(i2:Nat):Unit→Option Bool:=λ_=>
 (chk (decide (i2<a.length)) (chk (decide (i2<b.length)) (Option.bind (kH (gt a i2) (gt b i2)) λz16=>(bif (!z16) then
 (some false)
 else
 (f1 ())))))
def kD(a:List Ver)(b:List Ver):Option Bool:=
 (forU (jY a b) (λ_=>
 (some ((a.length:Int)==(b.length:Int)))) ((min (a.length:Int) (b.length:Int)).toNat) 0 ())
def bz(q:a6)(x_:ae):Option Bool:=
 (Option.bind (dP (decide (q.next≤4611686018427387904)) (du q x_.r)) λz13=>(Option.bind (dP ((decide (q.next≤4611686018427387904))&&z13) (bX q x_.route)) λz19=>(chk (imp (((decide (q.next≤4611686018427387904))&&z13)&&z19) (decide (0<x_.r.vers.length))) (chk (imp (((((decide (q.next≤4611686018427387904))&&z13)&&z19)&&(!((gt x_.r.vers 0).dot.s != q.c_self)))&&(!(Option.isNone q.under))) (Option.isSome q.under)) (chk (imp (((((decide (q.next≤4611686018427387904))&&z13)&&z19)&&(!((gt x_.r.vers 0).dot.s != q.c_self)))&&((!(Option.isNone q.under))&&((gt [gvo q.under] 0).key==x_.r.key))) (Option.isSome q.under)) (Option.bind (dP (((((decide (q.next≤4611686018427387904))&&z13)&&z19)&&(!((gt x_.r.vers 0).dot.s != q.c_self)))&&((!(Option.isNone q.under))&&((gt [gvo q.under] 0).key==x_.r.key))) (kD ((gt [gvo q.under] 0).vers) x_.r.vers)) λz77=>(some ((((decide (q.next≤4611686018427387904))&&z13)&&z19)&&(((gt x_.r.vers 0).dot.s != q.c_self)||(((!(Option.isNone q.under))&&((gt [gvo q.under] 0).key==x_.r.key))&&z77))))))))))
def q9(v_:List Int)(d:Dot):Option ((List Int)×Int):=
 (Option.bind (fh v_ d.s) λz2=>(bif ((z2.2 != 0)||(z2.1 != d)) then
 (some ([],1))
 else
 (chk (decide (0+v_.length≤lim)) (chk (inb (w64 (d.s - 1)) ((([]:List Int)++v_).length)) (some ((List.set (([]:List Int)++v_) ((w64 (d.s - 1)).toNat) d.n),0))))))
def mM(f9:List (Int×Bool)→Option a6)(i10:Nat)(ei10:Int):List (Int×Bool)→Option a6:=λm6=>
 (f9 (mput ei10 true m6))
def kF(q:a6)(seq:Int)(r_:Rec)(route:List Int)(sinks:List Int):Option a6:=
 (forI (mM) (λm6=>
 (bif (decide (0<(sinks.length:Int))) then
 (chk (decide (q.list.length+1≤lim)) (some (⟨q.c_self,q.c_sites,q.c_links,q.c_cap,q.c_base,q.log,q.applied,q.under,(q.list++[(⟨(⟨seq,(⟨r_.key,r_.vers⟩:Rec),route⟩:ai),m6⟩:aN)]),q.next,q.gaps,q.members⟩:a6)))
 else
 (some q))) 0 sinks ([]:List (Int×Bool)))
def gC(f40:List Int→Option a6)(sinks_47:List Int):Option a6:=
 (f40 sinks_47)
def mA:List (Int×Bool)→(Int×Bool)→Option (List (Int×Bool)):=λm88 en98=>
 (some (mput en98.1 true m88))
def mR(x_:ae)(f40:List Int→Option a6)(i41:Nat)(ei41:Int):List Int→Option a6:=λsinks_35=>
 (Option.bind (bi x_.route ei41) λz52=>(bif (!z52) then
 (chk (decide (sinks_35.length+1≤lim)) (gC f40 (sinks_35++[ei41])))
 else
 (gC f40 sinks_35)))
def gy(x_:ae)(o26:a6):Option a6:=
 (forI (mR x_) (λsinks_35=>
 (Option.bind (kF o26 o26.next x_.r x_.route sinks_35) λz69=>(bif (decide (z69.c_cap<(z69.list.length:Int))) then
 (chk (decide (0<z69.list.length)) (Option.bind (fldO (mA) z69.gaps ((gt z69.list 0).want)) (λm107=>
 (chk (decide (1≤z69.list.length)) (some (⟨z69.c_self,z69.c_sites,z69.c_links,z69.c_cap,z69.c_base,z69.log,z69.applied,z69.under,(List.drop 1 z69.list),(w64 (z69.next+1)),m107,z69.members⟩:a6))))))
 else
 (some (⟨z69.c_self,z69.c_sites,z69.c_links,z69.c_cap,z69.c_base,z69.log,z69.applied,z69.under,z69.list,(w64 (z69.next+1)),z69.gaps,z69.members⟩:a6))))) 0 o26.c_links [])
def ky(q:a6)(x_:ae):Option a6:=
 (chk (decide (0<x_.r.vers.length)) (Option.bind (q9 q.applied ((gt x_.r.vers 0).dot)) λz9=>(bif ((gt x_.r.vers 0).dot.s==(⟨q.c_self,q.c_sites,q.c_links,q.c_cap,q.c_base,q.log,z9.1,q.under,q.list,q.next,q.gaps,q.members⟩:a6).c_self) then
 (gy x_ (⟨(⟨q.c_self,q.c_sites,q.c_links,q.c_cap,q.c_base,q.log,z9.1,q.under,q.list,q.next,q.gaps,q.members⟩:a6).c_self,(⟨q.c_self,q.c_sites,q.c_links,q.c_cap,q.c_base,q.log,z9.1,q.under,q.list,q.next,q.gaps,q.members⟩:a6).c_sites,(⟨q.c_self,q.c_sites,q.c_links,q.c_cap,q.c_base,q.log,z9.1,q.under,q.list,q.next,q.gaps,q.members⟩:a6).c_links,(⟨q.c_self,q.c_sites,q.c_links,q.c_cap,q.c_base,q.log,z9.1,q.under,q.list,q.next,q.gaps,q.members⟩:a6).c_cap,(⟨q.c_self,q.c_sites,q.c_links,q.c_cap,q.c_base,q.log,z9.1,q.under,q.list,q.next,q.gaps,q.members⟩:a6).c_base,(⟨q.c_self,q.c_sites,q.c_links,q.c_cap,q.c_base,q.log,z9.1,q.under,q.list,q.next,q.gaps,q.members⟩:a6).log,(⟨q.c_self,q.c_sites,q.c_links,q.c_cap,q.c_base,q.log,z9.1,q.under,q.list,q.next,q.gaps,q.members⟩:a6).applied,none,(⟨q.c_self,q.c_sites,q.c_links,q.c_cap,q.c_base,q.log,z9.1,q.under,q.list,q.next,q.gaps,q.members⟩:a6).list,(⟨q.c_self,q.c_sites,q.c_links,q.c_cap,q.c_base,q.log,z9.1,q.under,q.list,q.next,q.gaps,q.members⟩:a6).next,(⟨q.c_self,q.c_sites,q.c_links,q.c_cap,q.c_base,q.log,z9.1,q.under,q.list,q.next,q.gaps,q.members⟩:a6).gaps,(⟨q.c_self,q.c_sites,q.c_links,q.c_cap,q.c_base,q.log,z9.1,q.under,q.list,q.next,q.gaps,q.members⟩:a6).members⟩:a6))
 else
 (gy x_ (⟨q.c_self,q.c_sites,q.c_links,q.c_cap,q.c_base,q.log,z9.1,q.under,q.list,q.next,q.gaps,q.members⟩:a6)))))
def aT(q:a6)(x_:ae):Option a6:=
 (Option.bind (ky q x_) λz2=>(some z2))
def ic(q:a6)(n:Int):Option Bool:=
 (Option.bind (dP (decide (n≤16)) (bi q.c_links n)) λz14=>(some ((decide (n≤16))&&z14)))
def d6(q:a6)(x_:al):Option Bool:=
 (Option.bind (ic q x_.sink) λz3=>(some (z3&&(decide (0<x_.seq)))))
def m7(e_:aC)(e_m:List (Int×Bool)):Option Bool:=
 (some ((e_m.length:Int)==0))
def ea(f8:a6→Option a6)(o15:a6):Option a6:=
 (f8 o15)
def kj(x_:al)(f8:a6→Option a6)(i9:Nat):a6→Option a6:=λo5=>
 (chk (decide (i9<o5.list.length)) (bif ((gt o5.list i9).entry.seq==x_.seq) then
 (ea f8 (⟨o5.c_self,o5.c_sites,o5.c_links,o5.c_cap,o5.c_base,o5.log,o5.applied,o5.under,(List.set o5.list i9 (aL.up (gt o5.list i9) (mdel x_.sink ((gt o5.list i9).want)))),o5.next,o5.gaps,o5.members⟩:a6))
 else
 (ea f8 o5)))
def bl(q:a6)(x_:al):Option a6:=
 (forU (kj x_) (λo5=>
 (some (⟨o5.c_self,o5.c_sites,o5.c_links,o5.c_cap,o5.c_base,o5.log,o5.applied,o5.under,(List.filter (λx=>!(x.want.length==0)) o5.list),o5.next,o5.gaps,o5.members⟩:a6))) q.list.length 0 q)
def cY(q:a6)(x_:ax):Option Bool:=
 (Option.bind (ic q x_.sink) λz3=>(some z3))
def bo(q:a6)(x_:ax):Option a6:=
 (some (⟨q.c_self,q.c_sites,q.c_links,q.c_cap,q.c_base,q.log,q.applied,q.under,q.list,q.next,(mdel x_.sink q.gaps),q.members⟩:a6))
def hZ(z5:a7×(Option ah)×(List (List UInt8))×Int)(f89:a6→Option (a7×(Option a6)×Int))(i90:Nat)(ei90:(List UInt8)):a6→Option (a7×(Option a6)×Int):=λo86=>
 (Option.bind (bu ei90) λz99=>(ak.el z99.1
 ((Option.bind (dP (!(!z99.2)) (kw o86)) λz120=>(bif ((!z99.2)||(!z120)) then
 (some (z5.1,none,2))
 else
 (Option.bind (cE o86) λz124=>(f89 o86)))))
 (λo106=>
 (Option.bind (dP (!(!z99.2)) (bB o86 o106)) λz133=>(bif ((!z99.2)||(!z133)) then
 (some (z5.1,none,2))
 else
 (Option.bind (aS o86 o106) λz137=>(f89 z137)))))
 (λo106=>
 (Option.bind (dP (!(!z99.2)) (bz o86 o106)) λz148=>(bif ((!z99.2)||(!z148)) then
 (some (z5.1,none,2))
 else
 (Option.bind (aT o86 o106) λz152=>(f89 z152)))))
 (λo106=>
 (Option.bind (dP (!(!z99.2)) (d6 o86 o106)) λz163=>(bif ((!z99.2)||(!z163)) then
 (some (z5.1,none,2))
 else
 (Option.bind (bl o86 o106) λz167=>(f89 z167)))))
 (λo106=>
 (Option.bind (dP (!(!z99.2)) (cY o86 o106)) λz178=>(bif ((!z99.2)||(!z178)) then
 (some (z5.1,none,2))
 else
 (Option.bind (bo o86 o106) λz182=>(f89 z182)))))))
def ee(c_:aq)(f54:List Int→Option (a7×(Option a6)×Int))(i55:Nat):List Int→Option (a7×(Option a6)×Int):=λx49=>
 (chk (decide (x49.length+1≤lim)) (f54 (x49++[c_.base])))
def ej(d:a7)(size:Int)(c_:aq):Option (a7×(Option a6)×Int):=
 (Option.bind (fu c_) λz2=>(bif (!z2) then
 (some (d,none,1))
 else
 (Option.bind (fO d (⟨#[103]⟩:ByteArray) size) λz5=>(bif (z5.2.2.2 != 0) then
 (some (z5.1,none,z5.2.2.2))
 else
 (Option.bind (bm c_.links) λz22=>(Option.bind z5.2.1 λz32=>(Option.bind (bm c_.members) λz36=>(forU (ee c_) (λx49=>
 (forI (hZ z5) (λo86=>
 (some (z5.1,(some o86),0))) 0 z5.2.2.1 (⟨c_.self,c_.sites,z22,c_.cap,c_.base,z32,x49,none,([]:List aN),1,([]:List (Int×Bool)),z36⟩:a6))) c_.sites.toNat 0 []))))))))
def ef(f7:(List UInt8)×Int→Option (List UInt8)):(List UInt8)×Int→Option (List UInt8):=λ(b_1,u_6)=>
 (bif (decide (127<u_6)) then
 (chk (u8b (ior .u8 (wu8 u_6) 128)) (chk (decide (b_1.length+1≤lim)) (f7 ((b_1++[(b8 (ior .u8 (wu8 u_6) 128))]),(ishr .u64 u_6 7)))))
 else
 (chk (decide (b_1.length+1≤lim)) (some (b_1++[(b8 (wu8 u_6))]))))
def ei(n:Int):Option (List UInt8):=
 (loopN (ef) FU ([],(wu64 (max n 0))))
def eb(f8:List UInt8→Option (List UInt8))(i9:Nat)(ei9:Int):List UInt8→Option (List UInt8):=λb_3=>
 (Option.bind (ei ei9) λz15=>(chk (decide (b_3.length+z15.length≤lim)) (f8 (b_3++z15))))
def ez(b:List UInt8)(l:List Int):Option (List UInt8):=
 (forI (eb) (λb_3=>
 (some b_3)) 0 l b)
def kI(s_:ByteArray):Option (List UInt8):=
 (Option.bind (ei (s_.size:Int)) λz1=>(chk (decide (z1.length+s_.size≤lim)) (some (z1++s_.data.toList))))
def dW(w_:a8)(s_:ByteArray):Option a8:=
 (Option.bind (kI s_) λz2=>(chk (decide (w_.b.length+z2.length≤lim)) (some (⟨(w_.b++z2)⟩:a8))))
def cB(w_:a8)(n:Int):Option a8:=
 (Option.bind (ei n) λz2=>(chk (decide (w_.b.length+z2.length≤lim)) (some (⟨(w_.b++z2)⟩:a8))))
def bI(w_:a8)(n:Int):Option a8:=
 (Option.bind (cB w_ n) λz1=>(some z1))
def dM(w_:a8)(x_:Span):Option a8:=
 (Option.bind (bI w_ x_.s) λz2=>(Option.bind (cB z2 x_.f) λz10=>(Option.bind (cB z10 (w64 (x_.t - x_.f))) λz18=>(some z18))))
def bP(f14:a8→Option a8)(i15:Nat)(ei15:Span):a8→Option a8:=λo11=>
 (Option.bind (dM o11 ei15) λz22=>(f14 z22))
def dv(w_:a8)(l:List Span):Option a8:=
 (Option.bind (bI w_ (l.length:Int)) λz1=>(forI (bP) (λo11=>
 (some o11)) 0 l z1))
def dc(w_:a8)(v_:Ver):Option a8:=
 (Option.bind (bI w_ v_.dot.s) λz2=>(Option.bind (cB z2 v_.dot.n) λz10=>(Option.bind (dv z10 v_.past) λz18=>(bif v_.gone then
 (Option.bind (bI z18 1) λz27=>(some z27))
 else
 (Option.bind (bI z18 0) λz35=>(Option.bind (dW z35 v_.val) λz43=>(some z43)))))))
def bZ(f14:a8→Option a8)(i15:Nat)(ei15:Ver):a8→Option a8:=λo11=>
 (Option.bind (dc o11 ei15) λz25=>(f14 z25))
def fw(w_:a8)(l:List Ver):Option a8:=
 (Option.bind (bI w_ (l.length:Int)) λz1=>(forI (bZ) (λo11=>
 (some o11)) 0 l z1))
def eu(w_:a8)(r_:Rec):Option a8:=
 (Option.bind (dW w_ r_.key) λz2=>(Option.bind (fw z2 r_.vers) λz10=>(some z10)))
def fL(r_:Rec):Option ((List UInt8)×Int):=
 (Option.bind (az r_) λz2=>(bif (!z2) then
 (some ([],1))
 else
 (Option.bind (eu (⟨[]⟩:a8) r_) λz7=>(some (z7.b,0)))))
def gM(b:List UInt8)(r_:Rec):Option (List UInt8):=
 (Option.bind (fL r_) λz2=>(chk (decide (b.length+z2.1.length≤lim)) (some (b++z2.1))))
def gT(x_:ar):Option (List UInt8):=
 (Option.bind (ez [] [1]) λz10=>(Option.bind (gM z10 x_.r) λz20=>(some z20)))
def ki(z13:Int)(f20:List UInt8→Option ((List UInt8)×Int))(i21:Nat):List UInt8→Option ((List UInt8)×Int):=λout_15=>
 (chk (decide (0≤(w64 (8*(i21:Int))))) (chk (decide (out_15.length+1≤lim)) (f20 (out_15++[(b8 (wu8 (ishr .u32 z13 (w64 (8*(i21:Int))))))]))))
def il(b:List UInt8):Option ((List UInt8)×Int):=
 (bif (decide (1048576<(b.length:Int))) then
 (some ([],3))
 else
 (Option.bind (ei (b.length:Int)) λz2=>(Option.bind (jt ([z2,b]:List (List UInt8))) λz13=>(forU (ki z13) (λout_15=>
 (chk (decide (out_15.length+b.length≤lim)) (some ((out_15++b),0)))) 4 0 z2))))
def eN:Int→(ByteArray×(List UInt8))→Option Int:=λn_12 en23=>
 (some (w64 (n_12+(en23.2.length:Int))))
def gJ(d:a7):Option Int:=
 (Option.bind (fldO (eN) 0 d.seen) (λn_12=>
 (some n_12)))
def nR(name:ByteArray)(b:List UInt8):Option aj:=
 (some (aj.disk_add_1 name b))
def fv(d:a7)(name:ByteArray)(b:List UInt8):Option (a7×Int):=
 (Option.bind (iK [name]) λz3=>(bif (!z3) then
 (some (d,70))
 else
 (Option.bind (gJ d) λz7=>(bif (decide ((w64 (d.room - z7))<(b.length:Int))) then
 (some (d,72))
 else
 (Option.bind (cd b) λz11=>(Option.bind (nR name z11) λz26=>(Option.bind (dI d (⟨z26,name,z11⟩:aG)) λz36=>(some (z36.1,z36.2)))))))))
def fk(l:ah)(part_15:Int)(tail_17:Int)(f_40:List UInt8)(e_45:Int)(o47:a7):Option (ah×a7×Int):=
 (bif (e_45 != 0) then
 (some (l,o47,e_45))
 else
 (some ((⟨l.place_name,l.place_gen,l.size,part_15,(w64 (tail_17+(f_40.length:Int))),(w64 (l.count+1)),(w64 (l.bytes+(f_40.length:Int)))⟩:ah),o47,0)))
def cx(l:ah)(dk0:a7)(z1:(List UInt8)×Int)(part_15:Int)(tail_17:Int):Option (ah×a7×Int):=
 (bif (decide (999999<part_15)) then
 (some (l,dk0,72))
 else
 (Option.bind (cH l.place_name l.place_gen l.place_gen part_15) λz57=>(chk (decide (z57.size≤lim)) (Option.bind (fv dk0 z57 z1.1) λz60=>(fk l part_15 tail_17 z1.1 z60.2 z60.1)))))
def bh(l:ah)(b:List UInt8)(dk0:a7):Option (ah×a7×Int):=
 (Option.bind (il b) λz1=>(bif (z1.2 != 0) then
 (some (l,dk0,z1.2))
 else
 (bif ((l.last==0)||((decide (0<l.tail))&&(decide ((w64 (l.size - l.tail))<(z1.1.length:Int))))) then
 (cx l dk0 z1 (w64 (l.last+1)) 0)
 else
 (cx l dk0 z1 l.last l.tail))))
def cu(l:ah)(dk0:a7):Option a7:=
 (Option.bind (gH dk0) λz2=>(some z2))
def dk(q:a6)(z4:List UInt8)(z20:ah×a7×Int)(o36:a7):Option (a6×a7×Int):=
 (Option.bind (bu z4) λz50=>(ak.el z50.1
 ((Option.bind (cE (⟨q.c_self,q.c_sites,q.c_links,q.c_cap,q.c_base,z20.1,q.applied,q.under,q.list,q.next,q.gaps,q.members⟩:a6)) λz68=>(some ((⟨q.c_self,q.c_sites,q.c_links,q.c_cap,q.c_base,z20.1,q.applied,q.under,q.list,q.next,q.gaps,q.members⟩:a6),o36,0))))
 (λo57=>
 (Option.bind (aS (⟨q.c_self,q.c_sites,q.c_links,q.c_cap,q.c_base,z20.1,q.applied,q.under,q.list,q.next,q.gaps,q.members⟩:a6) o57) λz74=>(some (z74,o36,0))))
 (λo57=>
 (Option.bind (aT (⟨q.c_self,q.c_sites,q.c_links,q.c_cap,q.c_base,z20.1,q.applied,q.under,q.list,q.next,q.gaps,q.members⟩:a6) o57) λz82=>(some (z82,o36,0))))
 (λo57=>
 (Option.bind (bl (⟨q.c_self,q.c_sites,q.c_links,q.c_cap,q.c_base,z20.1,q.applied,q.under,q.list,q.next,q.gaps,q.members⟩:a6) o57) λz90=>(some (z90,o36,0))))
 (λo57=>
 (Option.bind (bo (⟨q.c_self,q.c_sites,q.c_links,q.c_cap,q.c_base,z20.1,q.applied,q.under,q.list,q.next,q.gaps,q.members⟩:a6) o57) λz98=>(some (z98,o36,0))))))
def bA(q:a6)(x_:ar)(sync:Bool)(dk0:a7):Option (a6×a7×Int):=
 (Option.bind (bB q x_) λz1=>(bif (!z1) then
 (some (q,dk0,1))
 else
 (Option.bind (gT x_) λz4=>(Option.bind (bh q.log z4 dk0) λz20=>(bif (z20.2.2 != 0) then
 (some ((⟨q.c_self,q.c_sites,q.c_links,q.c_cap,q.c_base,z20.1,q.applied,q.under,q.list,q.next,q.gaps,q.members⟩:a6),z20.2.1,z20.2.2))
 else
 (bif sync then
 (Option.bind (cu ((⟨q.c_self,q.c_sites,q.c_links,q.c_cap,q.c_base,z20.1,q.applied,q.under,q.list,q.next,q.gaps,q.members⟩:a6).log) z20.2.1) λz41=>(dk q z4 z20 z41))
 else
 (dk q z4 z20 z20.2.1)))))))
def gB(r_:Rec):Option Rec:=
 (Option.bind (fL r_) λz3=>(Option.bind (kg z3.1) λz19=>(some z19.1)))
def bv(q:a6):Option (Rec×Bool):=
 (bif (Option.isNone q.under) then
 (some ((⟨ByteArray.empty,[]⟩:Rec),false))
 else
 (chk (Option.isSome q.under) (Option.bind (gB (gt [gvo q.under] 0)) λz9=>(some (z9,true)))))
def br(q:a6)(key:ByteArray)(past:List Span)(gone:Bool)(val:ByteArray)(dk0:a7):Option (a6×a7×Ver×Int):=
 (bif (!(Option.isNone q.under)) then
 (some (q,dk0,(⟨(⟨0,0⟩:Dot),[],false,ByteArray.empty⟩:Ver),202))
 else
 (Option.bind (fh q.applied q.c_self) λz6=>(bif (z6.2 != 0) then
 (chk (i64b z6.2) (some (q,dk0,(⟨(⟨0,0⟩:Dot),[],false,ByteArray.empty⟩:Ver),z6.2)))
 else
 (chk (i64b z6.1.s) (chk (i64b z6.1.n) (Option.bind (bA q (⟨(⟨key,[(⟨(⟨z6.1.s,z6.1.n⟩:Dot),past,gone,val⟩:Ver)]⟩:Rec)⟩:ar) true dk0) λz23=>(bif (z23.2.2 != 0) then
 (some (z23.1,z23.2.1,(⟨(⟨0,0⟩:Dot),[],false,ByteArray.empty⟩:Ver),z23.2.2))
 else
 (Option.bind (bv z23.1) λz35=>(chk (decide (0<z35.1.vers.length)) (some (z23.1,z23.2.1,(gt z35.1.vers 0),0)))))))))))
def cJ(f25:List UInt8→Option (List UInt8))(i26:Nat)(ei26:Int):List UInt8→Option (List UInt8):=λb_20=>
 (Option.bind (ez b_20 [ei26]) λz39=>(f25 z39))
def eO(b:List UInt8)(l:List Int):Option (List UInt8):=
 (Option.bind (ez b [(l.length:Int)]) λz8=>(forI (cJ) (λb_20=>
 (some b_20)) 0 l z8))
def dH(x_:ae):Option (List UInt8):=
 (Option.bind (ez [] [2]) λz10=>(Option.bind (eO z10 x_.route) λz20=>(Option.bind (gM z20 x_.r) λz30=>(some z30))))
def bL(q:a6)(z4:List UInt8)(z20:ah×a7×Int)(o36:a7):Option (a6×a7×Int):=
 (Option.bind (bu z4) λz50=>(ak.el z50.1
 ((Option.bind (cE (⟨q.c_self,q.c_sites,q.c_links,q.c_cap,q.c_base,z20.1,q.applied,q.under,q.list,q.next,q.gaps,q.members⟩:a6)) λz68=>(some ((⟨q.c_self,q.c_sites,q.c_links,q.c_cap,q.c_base,z20.1,q.applied,q.under,q.list,q.next,q.gaps,q.members⟩:a6),o36,0))))
 (λo57=>
 (Option.bind (aS (⟨q.c_self,q.c_sites,q.c_links,q.c_cap,q.c_base,z20.1,q.applied,q.under,q.list,q.next,q.gaps,q.members⟩:a6) o57) λz74=>(some (z74,o36,0))))
 (λo57=>
 (Option.bind (aT (⟨q.c_self,q.c_sites,q.c_links,q.c_cap,q.c_base,z20.1,q.applied,q.under,q.list,q.next,q.gaps,q.members⟩:a6) o57) λz82=>(some (z82,o36,0))))
 (λo57=>
 (Option.bind (bl (⟨q.c_self,q.c_sites,q.c_links,q.c_cap,q.c_base,z20.1,q.applied,q.under,q.list,q.next,q.gaps,q.members⟩:a6) o57) λz90=>(some (z90,o36,0))))
 (λo57=>
 (Option.bind (bo (⟨q.c_self,q.c_sites,q.c_links,q.c_cap,q.c_base,z20.1,q.applied,q.under,q.list,q.next,q.gaps,q.members⟩:a6) o57) λz98=>(some (z98,o36,0))))))
def b4(q:a6)(x_:ae)(sync:Bool)(dk0:a7):Option (a6×a7×Int):=
 (Option.bind (bz q x_) λz1=>(bif (!z1) then
 (some (q,dk0,1))
 else
 (Option.bind (dH x_) λz4=>(Option.bind (bh q.log z4 dk0) λz20=>(bif (z20.2.2 != 0) then
 (some ((⟨q.c_self,q.c_sites,q.c_links,q.c_cap,q.c_base,z20.1,q.applied,q.under,q.list,q.next,q.gaps,q.members⟩:a6),z20.2.1,z20.2.2))
 else
 (bif sync then
 (Option.bind (cu ((⟨q.c_self,q.c_sites,q.c_links,q.c_cap,q.c_base,z20.1,q.applied,q.under,q.list,q.next,q.gaps,q.members⟩:a6).log) z20.2.1) λz41=>(bL q z4 z20 z41))
 else
 (bL q z4 z20 z20.2.1)))))))
def bw(q:a6)(r_:Rec)(route:List Int)(dk0:a7):Option (a6×a7×Int):=
 (Option.bind (b4 q (⟨route,(⟨r_.key,r_.vers⟩:Rec)⟩:ae) true dk0) λz2=>(some (z2.1,z2.2.1,z2.2.2)))
def dZ(f10:List ai→Option (List ai))(out_19:List ai):Option (List ai):=
 (f10 out_19)
def iP(q:a6)(sink:Int)(n:Int)(f10:List ai→Option (List ai))(i11:Nat):List ai→Option (List ai):=λout_5=>
 (bif ((decide ((out_5.length:Int)<n))&&((mget sink ((gt q.list i11).want)).getD false)) then
 (Option.bind (gB ((gt q.list i11).entry.rec_)) λz35=>(Option.bind (bm ((gt q.list i11).entry.route)) λz44=>(chk (decide (out_5.length+1≤lim)) (dZ f10 (out_5++[(⟨(gt q.list i11).entry.seq,(⟨z35.key,z35.vers⟩:Rec),z44⟩:ai)])))))
 else
 (dZ f10 out_5))
def b6(q:a6)(sink:Int)(n:Int):Option (List ai):=
 (forU (iP q sink n) (λout_5=>
 (some out_5)) q.list.length 0 [])
def ij(q:a6):Option (List Int):=
 (chk (decide (q.gaps.length≤lim)) (some (iN q.gaps)))
def lf(x_:al):Option (List UInt8):=
 (Option.bind (ez [] [4,x_.sink,x_.seq]) λz9=>(some z9))
def dR(q:a6)(z4:List UInt8)(z20:ah×a7×Int)(o36:a7):Option (a6×a7×Int):=
 (Option.bind (bu z4) λz50=>(ak.el z50.1
 ((Option.bind (cE (⟨q.c_self,q.c_sites,q.c_links,q.c_cap,q.c_base,z20.1,q.applied,q.under,q.list,q.next,q.gaps,q.members⟩:a6)) λz68=>(some ((⟨q.c_self,q.c_sites,q.c_links,q.c_cap,q.c_base,z20.1,q.applied,q.under,q.list,q.next,q.gaps,q.members⟩:a6),o36,0))))
 (λo57=>
 (Option.bind (aS (⟨q.c_self,q.c_sites,q.c_links,q.c_cap,q.c_base,z20.1,q.applied,q.under,q.list,q.next,q.gaps,q.members⟩:a6) o57) λz74=>(some (z74,o36,0))))
 (λo57=>
 (Option.bind (aT (⟨q.c_self,q.c_sites,q.c_links,q.c_cap,q.c_base,z20.1,q.applied,q.under,q.list,q.next,q.gaps,q.members⟩:a6) o57) λz82=>(some (z82,o36,0))))
 (λo57=>
 (Option.bind (bl (⟨q.c_self,q.c_sites,q.c_links,q.c_cap,q.c_base,z20.1,q.applied,q.under,q.list,q.next,q.gaps,q.members⟩:a6) o57) λz90=>(some (z90,o36,0))))
 (λo57=>
 (Option.bind (bo (⟨q.c_self,q.c_sites,q.c_links,q.c_cap,q.c_base,z20.1,q.applied,q.under,q.list,q.next,q.gaps,q.members⟩:a6) o57) λz98=>(some (z98,o36,0))))))
def im(q:a6)(x_:al)(sync:Bool)(dk0:a7):Option (a6×a7×Int):=
 (Option.bind (d6 q x_) λz1=>(bif (!z1) then
 (some (q,dk0,1))
 else
 (Option.bind (lf x_) λz4=>(Option.bind (bh q.log z4 dk0) λz20=>(bif (z20.2.2 != 0) then
 (some ((⟨q.c_self,q.c_sites,q.c_links,q.c_cap,q.c_base,z20.1,q.applied,q.under,q.list,q.next,q.gaps,q.members⟩:a6),z20.2.1,z20.2.2))
 else
 (bif sync then
 (Option.bind (cu ((⟨q.c_self,q.c_sites,q.c_links,q.c_cap,q.c_base,z20.1,q.applied,q.under,q.list,q.next,q.gaps,q.members⟩:a6).log) z20.2.1) λz41=>(dR q z4 z20 z41))
 else
 (dR q z4 z20 z20.2.1)))))))
def m8(q:a6)(sink:Int)(seq:Int)(dk0:a7)(f3:Unit→Option (a6×a7×Bool))(i4:Nat):Unit→Option (a6×a7×Bool):=λ_=>
 (bif (((gt q.list i4).entry.seq==seq)&&((mget sink ((gt q.list i4).want)).getD false)) then
 (Option.bind (im q (⟨sink,seq⟩:al) false dk0) λz21=>(some (z21.1,z21.2.1,(z21.2.2==0))))
 else
 (f3 ()))
def kn(q:a6)(sink:Int)(seq:Int)(dk0:a7):Option (a6×a7×Bool):=
 (forU (m8 q sink seq dk0) (λ_=>
 (some (q,dk0,false))) q.list.length 0 ())
def kp(q:a6):Option Int:=
 (some (q.list.length:Int))
def kY(x_:ax):Option (List UInt8):=
 (Option.bind (ez [] [5,x_.sink]) λz9=>(some z9))
def dN(q:a6)(z4:List UInt8)(z20:ah×a7×Int)(o36:a7):Option (a6×a7×Int):=
 (Option.bind (bu z4) λz50=>(ak.el z50.1
 ((Option.bind (cE (⟨q.c_self,q.c_sites,q.c_links,q.c_cap,q.c_base,z20.1,q.applied,q.under,q.list,q.next,q.gaps,q.members⟩:a6)) λz68=>(some ((⟨q.c_self,q.c_sites,q.c_links,q.c_cap,q.c_base,z20.1,q.applied,q.under,q.list,q.next,q.gaps,q.members⟩:a6),o36,0))))
 (λo57=>
 (Option.bind (aS (⟨q.c_self,q.c_sites,q.c_links,q.c_cap,q.c_base,z20.1,q.applied,q.under,q.list,q.next,q.gaps,q.members⟩:a6) o57) λz74=>(some (z74,o36,0))))
 (λo57=>
 (Option.bind (aT (⟨q.c_self,q.c_sites,q.c_links,q.c_cap,q.c_base,z20.1,q.applied,q.under,q.list,q.next,q.gaps,q.members⟩:a6) o57) λz82=>(some (z82,o36,0))))
 (λo57=>
 (Option.bind (bl (⟨q.c_self,q.c_sites,q.c_links,q.c_cap,q.c_base,z20.1,q.applied,q.under,q.list,q.next,q.gaps,q.members⟩:a6) o57) λz90=>(some (z90,o36,0))))
 (λo57=>
 (Option.bind (bo (⟨q.c_self,q.c_sites,q.c_links,q.c_cap,q.c_base,z20.1,q.applied,q.under,q.list,q.next,q.gaps,q.members⟩:a6) o57) λz98=>(some (z98,o36,0))))))
def io(q:a6)(x_:ax)(sync:Bool)(dk0:a7):Option (a6×a7×Int):=
 (Option.bind (cY q x_) λz1=>(bif (!z1) then
 (some (q,dk0,1))
 else
 (Option.bind (kY x_) λz4=>(Option.bind (bh q.log z4 dk0) λz20=>(bif (z20.2.2 != 0) then
 (some ((⟨q.c_self,q.c_sites,q.c_links,q.c_cap,q.c_base,z20.1,q.applied,q.under,q.list,q.next,q.gaps,q.members⟩:a6),z20.2.1,z20.2.2))
 else
 (bif sync then
 (Option.bind (cu ((⟨q.c_self,q.c_sites,q.c_links,q.c_cap,q.c_base,z20.1,q.applied,q.under,q.list,q.next,q.gaps,q.members⟩:a6).log) z20.2.1) λz41=>(dN q z4 z20 z41))
 else
 (dN q z4 z20 z20.2.1)))))))
def jD(q:a6)(sink:Int)(dk0:a7):Option (a6×a7×Int):=
 (bif (!((mget sink q.gaps).getD false)) then
 (some (q,dk0,0))
 else
 (Option.bind (io q (⟨sink⟩:ax) true dk0) λz8=>(some (z8.1,z8.2.1,z8.2.2))))
def dT(s_:List Int):Option (List Int):=
 (nilc s_.isEmpty (
 (some []))
 ((chk (decide (0+s_.length≤lim)) (some (([]:List Int)++s_)))))
def b5(q:a6):Option (List Int):=
 (Option.bind (dT q.applied) λz2=>(some z2))
def mH(b:List Int)(f2:Unit→Option Bool)(i3:Nat)(ei3:Int):Unit→Option Bool:=λ_=>
 (chk (decide (i3<b.length)) (bif (ei3 != (gt b i3)) then
 (some false)
 else
 (f2 ())))
def de(a:List Int)(b:List Int):Option Bool:=
 (bif ((a.length:Int) != (b.length:Int)) then
 (some false)
 else
 (forI (mH b) (λ_=>
 (some true)) 0 a ()))
def ig: Option Bool:=
 (Option.bind (k6 9000) λz1=>(Option.bind (gL) λz10=>(Option.bind (ej z1 256 z10) λz21=>(bif ((Option.isNone z21.2.1)||(z21.2.2 != 0)) then
 (some false)
 else
 (Option.bind z21.2.1 λz36=>(Option.bind (br z36 (⟨#[107]⟩:ByteArray) [] false (⟨#[118]⟩:ByteArray) z21.1) λz39=>(Option.bind (br z39.1 (⟨#[107]⟩:ByteArray) [] false (⟨#[118]⟩:ByteArray) z39.2.1) λz54=>(Option.bind (bv z54.1) λz69=>(bif (!((((z39.2.2.2 != 0)||(z54.2.2.2 != 202))||(!z69.2))||(z39.2.2.1.dot != (⟨1,1⟩:Dot)))) then
 (Option.bind (bw z54.1 z69.1 [1] z54.2.1) λz97=>(bif (!(z97.2.2 != 0)) then
 (Option.bind (b6 z97.1 2 9) λz110=>(bif ((z110.length:Int) != 1) then
 (some false)
 else
 (Option.bind (br z97.1 (⟨#[108]⟩:ByteArray) [] false (⟨#[118]⟩:ByteArray) z97.2.1) λz123=>(Option.bind (bv z123.1) λz137=>(Option.bind (bw z123.1 z137.1 [1] z123.2.1) λz153=>(Option.bind (ij z153.1) λz164=>(bif ((z153.2.2==0)&&((z164.length:Int)==1)) then
 (Option.bind (kn z153.1 2 2 z153.2.1) λz178=>(bif z178.2.2 then
 (Option.bind (kp z178.1) λz190=>(bif (z190==0) then
 (Option.bind (jD z178.1 2 z178.2.1) λz199=>(bif (z199.2.2==0) then
 (Option.bind (ij z199.1) λz212=>(bif ((z212.length:Int)==0) then
 (Option.bind (b5 z199.1) λz224=>(Option.bind (de z224 [2,0]) λz236=>(some z236)))
 else
 (some false)))
 else
 (some false)))
 else
 (some false)))
 else
 (some false)))
 else
 (some false))))))))
 else
 (some false)))
 else
 (some false))))))))))
def bp(q:a6):Option (List Int):=
 (Option.bind (bm q.members) λz2=>(some z2))
def cm(b:List Int)(f2:Unit→Option Bool)(i3:Nat)(ei3:Int):Unit→Option Bool:=λ_=>
 (chk (decide (i3<b.length)) (bif (ei3 != (gt b i3)) then
 (some false)
 else
 (f2 ())))
def bH(a:List Int)(b:List Int):Option Bool:=
 (bif ((a.length:Int) != (b.length:Int)) then
 (some false)
 else
 (forI (cm b) (λ_=>
 (some true)) 0 a ()))
def jU(f177:List Int→Option Bool)(i178:Nat):List Int→Option Bool:=λx173=>
 (f177 (List.set x173 i178 77))
def cw(f397:List Int→Option Bool)(i398:Nat)(ei398:Int):List Int→Option Bool:=λx393=>
 (f397 (List.set x393 i398 77))
def dg(key:ByteArray)(val:ByteArray)(route:List Int):Option Bool:=
 (Option.bind (ig) λz1=>(bif (!z1) then
 (some false)
 else
 (Option.bind (gL) λz4=>(Option.bind (k6 1048576) λz23=>(Option.bind (ej z23 256 (⟨z4.self,z4.sites,[2],z4.cap,z4.base,z4.members⟩:aq)) λz32=>(bif ((Option.isNone z32.2.1)||(z32.2.2 != 0)) then
 (some false)
 else
 (Option.bind z32.2.1 λz47=>(chk (decide (0 < [2].length)) (Option.bind (br z47 key ([]:List Span) false val z32.1) λz76=>(bif (z76.2.2.2 != 0) then
 (some ((z76.2.2.2==1)&&(z76.2.2.1.dot==(⟨0,0⟩:Dot))))
 else
 (Option.bind (bv z76.1) λz96=>(chk (decide (0<z96.1.vers.length)) (Option.bind (bv z76.1) λz118=>(chk (decide (0+route.length≤lim)) (chk (decide (0<z118.1.vers.length)) (bif (((gt z118.1.vers 0).val != val)||(z118.1.key != key)) then
 (some false)
 else
 (Option.bind (bw z76.1 z118.1 route z76.2.1) λz142=>(bif (z142.2.2 != 0) then
 (Option.bind (bw z142.1 z118.1 [1] z142.2.1) λz156=>(bif (z156.2.2 != 0) then
 (some false)
 else
 (chk (decide (0+1≤lim)) (forU (jU) (λx173=>
 (Option.bind (b5 z156.1) λz197=>(chk (decide (0<z197.length)) (Option.bind (bp z156.1) λz218=>(chk (decide (0<z218.length)) (Option.bind (b6 z156.1 2 1) λz239=>(chk (z239.all (λe_=>decide (0<(e_.rec_.vers).length))) (Option.bind (b6 z156.1 2 1) λz307=>(chk (imp ((z307.length:Int)==1) (decide (0<z307.length))) (chk (imp ((z307.length:Int)==1) (decide (0<((gt z307 0).rec_.vers).length))) (Option.bind (dP (((z307.length:Int)==1)&&(!((gt ((gt z307 0).rec_.vers) 0).val != val))) (bH ((gt z307 0).route) [1])) λz346=>(bif (((z307.length:Int)==1)&&(((gt ((gt z307 0).rec_.vers) 0).val != val)||(!z346))) then
 (some false)
 else
 (bif ((z307.length:Int)==(z239.length:Int)) then
 (Option.bind (b5 z156.1) λz353=>(Option.bind (de z353 [1,0]) λz368=>(bif z368 then
 (Option.bind (bp z156.1) λz372=>(Option.bind (bH z372 [1]) λz387=>(some z387)))
 else
 (some false))))
 else
 (some false)))))))))))))) 1 0 [1]))))
 else
 (forI (cw) (λx393=>
 (Option.bind (b5 z142.1) λz417=>(chk (decide (0<z417.length)) (Option.bind (bp z142.1) λz438=>(chk (decide (0<z438.length)) (Option.bind (b6 z142.1 2 1) λz459=>(chk (z459.all (λe_=>decide (0<(e_.rec_.vers).length))) (Option.bind (b6 z142.1 2 1) λz527=>(chk (imp ((z527.length:Int)==1) (decide (0<z527.length))) (chk (imp ((z527.length:Int)==1) (decide (0<((gt z527 0).rec_.vers).length))) (Option.bind (dP (((z527.length:Int)==1)&&(!((gt ((gt z527 0).rec_.vers) 0).val != val))) (bH ((gt z527 0).route) route)) λz566=>(bif (((z527.length:Int)==1)&&(((gt ((gt z527 0).rec_.vers) 0).val != val)||(!z566))) then
 (some false)
 else
 (bif ((z527.length:Int)==(z459.length:Int)) then
 (Option.bind (b5 z142.1) λz573=>(Option.bind (de z573 [1,0]) λz588=>(bif z588 then
 (Option.bind (bp z142.1) λz592=>(Option.bind (bH z592 [1]) λz607=>(some z607)))
 else
 (some false))))
 else
 (some false)))))))))))))) 0 route route)))))))))))))))))))
end Fw
end Go.Proofs.YtangaamigenjjaaGreat
