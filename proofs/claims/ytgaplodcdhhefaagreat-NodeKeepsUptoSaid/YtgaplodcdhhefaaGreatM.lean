/- What the functions compute, as Lean functions (printed by a program). No condition. -/
import Derived.Test.YtgaplodcdhhefaaGreatE
import Derived.Test.YtgaplodcdhhefaaGreatK14
import Derived.Test.YtgaplodcdhhefaaGreatK15
import Derived.Test.YtgaplodcdhhefaaGreatK16
import Derived.Test.YtgaplodcdhhefaaGreatK17
import Derived.Test.YtgaplodcdhhefaaGreatK18
import Derived.Test.YtgaplodcdhhefaaGreatK19
import Derived.Test.YtgaplodcdhhefaaGreatK20
import Derived.Test.YtgaplodcdhhefaaGreatK23
import Derived.Test.YtgaplodcdhhefaaGreatK24
import Derived.Test.YtgaplodcdhhefaaGreatK25
import Derived.Test.YtgaplodcdhhefaaGreatK26
import Derived.Test.YtgaplodcdhhefaaGreatK27
import Derived.Test.YtgaplodcdhhefaaGreatK28
import Derived.Test.YtgaplodcdhhefaaGreatK29
import Derived.Test.YtgaplodcdhhefaaGreatK30
import Derived.Test.YtgaplodcdhhefaaGreatK32
import Derived.Test.YtgaplodcdhhefaaGreatK33
import Derived.Test.YtgaplodcdhhefaaGreatK34
import Derived.Test.YtgaplodcdhhefaaGreatK36
import Derived.Test.YtgaplodcdhhefaaGreatK37
import Derived.Test.YtgaplodcdhhefaaGreatK39
import Derived.Test.YtgaplodcdhhefaaGreatK43
namespace Go.Proofs.YtgaplodcdhhefaaGreat
namespace Fw
set_option linter.unusedVariables false
set_option linter.unusedSimpArgs false
set_option linter.unusedSectionVars false
open Go.RowKit
structure a6 where
  room:Int
  safe_:(List (ByteArray×(List UInt8)))
  seen:(List (ByteArray×(List UInt8)))
  loose:(List az)
  deriving Inhabited,DecidableEq
abbrev ak:=(List (List UInt8)×Int)
abbrev ag:=(List ByteArray)
structure ai where
  place_name:ByteArray
  place_gen:Int
  size:Int
  last:Int
  tail:Int
  count:Int
  bytes:Int
  deriving Inhabited,DecidableEq
structure a8 where
  log:ai
  keys:(List (ByteArray×(List UInt8)))
  deriving Inhabited,DecidableEq
structure a7 where
  b:(List UInt8)
  at_:Int
  deriving Inhabited,DecidableEq
structure aa where
  life:Int
  self_site:Int
  self_node:Int
  own:a8
  hints:(List (Int×a8))
  does:(List (Int×Nat))
  deriving Inhabited,DecidableEq
structure ac where
  b:(List UInt8)
  deriving Inhabited,DecidableEq
def kd(room:Int):Option a6:=
 (some (⟨(min (max room 0) 1073741824),([]:List (ByteArray×(List UInt8))),([]:List (ByteArray×(List UInt8))),[]⟩:a6))
def cZ(n:Int):Option Adr:=
 (some (⟨1,n⟩:Adr))
def ce(s_:ByteArray)(c_:Int):Option Int:=
 (some (ixb s_ c_))
def aR(s_:ByteArray):Option Int:=
 (bif ((⟨#[46]⟩:ByteArray)==s_) then
 (some 0)
 else
 (Option.bind (ce s_ 46) λz2=>(some z2)))
def gV(s_:ByteArray):Option Int:=
 (Option.bind (aR s_) λz1=>(some z1))
def eZ(s_:ByteArray):Option Bool:=
 (Option.bind (gV s_) λz1=>(some (decide (0≤z1))))
def et(p__1:ByteArray)(p__2:Int):Option ByteArray:=
 (some (p__1++(⟨#[46,109]⟩:ByteArray)))
def bJ(s_:List UInt8):Option (List UInt8):=
 (nilc s_.isEmpty (
 (some []))
 ((chk (decide (0+s_.length≤lim)) (some (([]:List UInt8)++s_)))))
def cE(d:a6)(name:ByteArray):Option ((List UInt8)×Bool):=
 (Option.bind (bJ ((mget name d.seen).getD [])) λz9=>(some (z9,((mget name d.seen).isSome))))
def jS(e_6:Int):Option (Int×Int×Int):=
 (some (0,0,e_6))
def j9(b:List UInt8)(at_:Int)(n_9:Int)(f10:Int→Option (Int×Int×Int))(i11:Nat)(x_17:Bool):Option (Int×Int×Int):=
 (bif x_17 then
 (jS 2)
 else
 (bif (decide ((((gt (List.drop at_.toNat b) i11).toNat:Nat):Int)<128)) then
 (chk (decide (0≤(w64 (7*(i11:Int))))) (some ((w64 (ior .u64 n_9 (ishl .u64 (wu64 (((gt (List.drop at_.toNat b) i11).toNat:Nat):Int)) (w64 (7*(i11:Int)))))),(w64 ((w64 (at_+(i11:Int)))+1)),0)))
 else
 (chk (decide (0≤(w64 (7*(i11:Int))))) (f10 (ior .u64 n_9 (ishl .u64 (wu64 (iand .u8 (((gt (List.drop at_.toNat b) i11).toNat:Nat):Int) 127)) (w64 (7*(i11:Int)))))))))
def j6(b:List UInt8)(at_:Int)(f10:Int→Option (Int×Int×Int))(i11:Nat)(ei11:UInt8):Int→Option (Int×Int×Int):=λn_9=>
 (bif (((i11:Int)==8)&&(decide (127<(ei11.toNat:Int)))) then
 (j9 b at_ n_9 f10 i11 (((i11:Int)==8)&&(decide (127<(ei11.toNat:Int)))))
 else
 (j9 b at_ n_9 f10 i11 ((decide (0<(i11:Int)))&&((ei11.toNat:Int)==0))))
def gi(b:List UInt8)(at_:Int):Option (Int×Int×Int):=
 (bif ((decide (at_<0))||(decide ((b.length:Int)<at_))) then
 (some (0,0,1))
 else
 (chk (inle at_ b.length) (forI (j6 b at_) (λn_9=>
 (jS 4)) 0 (List.drop at_.toNat b) 0)))
def gP(f21:Int→Option Int)(i22:Nat):Int→Option Int:=λr_20=>
 (f21 (ixor .u32 (ishr .u32 r_20 1) (iand .u32 3988292384 (wu32 (0 - (iand .u32 r_20 1))))))
def gT(f13:Int→Option Int)(i14:Nat)(ei14:UInt8):Int→Option Int:=λr_12=>
 (forU (gP) (λr_20=>
 (f13 r_20)) 8 0 (ixor .u32 r_12 (wu32 (ei14.toNat:Int))))
def jD(f2:Int→Option Int)(i3:Nat)(ei3:(List UInt8)):Int→Option Int:=λr_1=>
 (forI (gT) (λr_12=>
 (f2 r_12)) 0 ei3 r_1)
def jw(parts:List (List UInt8)):Option Int:=
 (forI (jD) (λr_1=>
 (some (icom .u32 r_1))) 0 parts 4294967295)
def jE(b:List UInt8)(z1:Int×Int×Int)(z15:Int)(f17:Unit→Option ((List UInt8)×Int×Int))(i18:Nat):Unit→Option ((List UInt8)×Int×Int):=λ_=>
 (chk (inb (w64 (z1.2.1+(i18:Int))) b.length) (chk (decide (0≤(w64 (8*(i18:Int))))) (bif ((((gt b ((w64 (z1.2.1+(i18:Int))).toNat)).toNat:Nat):Int) != (wu8 (ishr .u32 z15 (w64 (8*(i18:Int)))))) then
 (some ([],0,20))
 else
 (f17 ()))))
def jP(b:List UInt8)(at_:Int):Option ((List UInt8)×Int×Int):=
 (Option.bind (gi b at_) λz1=>(bif (z1.2.2 != 0) then
 (chk (i64b z1.2.2) (some ([],0,z1.2.2)))
 else
 (bif (decide (1048576<z1.1)) then
 (some ([],0,3))
 else
 (bif (decide ((w64 ((b.length:Int) - z1.2.1))<(w64 (z1.1+4)))) then
 (some ([],0,4))
 else
 (chk (inle (w64 ((w64 (z1.2.1+4))+z1.1)) b.length) (chk (decide (0≤(w64 (z1.2.1+4)))) (chk (decide ((w64 (z1.2.1+4)).toNat≤(w64 ((w64 (z1.2.1+4))+z1.1)).toNat)) (chk (inle z1.2.1 b.length) (chk (decide (0≤at_)) (chk (decide (at_.toNat≤z1.2.1.toNat)) (Option.bind (jw [(List.drop at_.toNat (List.take z1.2.1.toNat b)),(List.drop ((w64 (z1.2.1+4)).toNat) (List.take ((w64 ((w64 (z1.2.1+4))+z1.1)).toNat) b))]) λz15=>(forU (jE b z1 z15) (λ_=>
 (chk (decide (0+(List.drop ((w64 (z1.2.1+4)).toNat) (List.take ((w64 ((w64 (z1.2.1+4))+z1.1)).toNat) b)).length≤lim)) (some ((([]:List UInt8)++(List.drop ((w64 (z1.2.1+4)).toNat) (List.take ((w64 ((w64 (z1.2.1+4))+z1.1)).toNat) b))),(w64 ((w64 (z1.2.1+4))+z1.1)),0)))) 4 0 ()))))))))))))
def cu(Y:ak→List UInt8→Int→Option ak)(b0v:List UInt8)(f10:Int×Int×ak→Option (ak×Int)):Int×Int×ak→Option (ak×Int):=λ(at_3,x5,o7)=>
 (bif (decide (at_3<(b0v.length:Int))) then
 (Option.bind (jP b0v at_3) λz15=>(bif (!(z15.2.2 != 0)) then
 (Option.bind (Y o7 z15.1 z15.2.1) λz36=>(f10 (z15.2.1,z15.2.2,z36)))
 else
 (some (o7,z15.2.2))))
 else
 (some (o7,x5)))
def iW(Y:ak→List UInt8→Int→Option ak)(sY:ak)(b0v:List UInt8)(b1v:Int):Option (ak×Int):=
 (loopN (cu Y b0v) FU (0,b1v,sY))
def ee(s:ak)(b:List UInt8)(n:Int):Option ak:=chk (decide (s.1.length+1≤lim)) (some (s.1++[b],n))
def jB(b:List UInt8):Option (List (List UInt8)×Int×Int):=Option.bind (iW ee ([],0) b 0) λz=>some (z.1.1,z.1.2,z.2)
def eF(f34:Int→Option (Int×Int×Int))(i35:Nat)(ei35:(List UInt8)):Int→Option (Int×Int×Int):=λgen_33=>
 (Option.bind (gi ei35 0) λz44=>(bif ((((z44.2.2 != 0)||(z44.2.1 != (ei35.length:Int)))||(decide (z44.1<1)))||(decide (999999<z44.1))) then
 (some (0,0,2))
 else
 (f34 z44.1)))
def m_seglog_place_holds(p__1:ByteArray)(p__2:Int)(dk0:a6):Option (Int×Int×Int):=
 (Option.bind (et p__1 p__2) λz3=>(chk (decide (z3.size≤lim)) (Option.bind (cE dk0 z3) λz6=>(Option.bind (jB z6.1) λz21=>(forI (eF) (λgen_33=>
 (chk (i64b gen_33) (some (gen_33,z21.2.1,0)))) 0 z21.1 0)))))
def fM(d:a6):Option Int:=
 (some (d.loose.length:Int))
def lT(f1:Unit→Option Bool)(i2:Nat)(ei2:ByteArray):Unit→Option Bool:=λ_=>
 (bif ((decide ((ei2.size:Int)<1))||(decide (16<(ei2.size:Int)))) then
 (some false)
 else
 (f1 ()))
def il(names:List ByteArray):Option Bool:=
 (forI (lT) (λ_=>
 (some true)) 0 names ())
def dZ(d:a6)(name:ByteArray):Option Int:=
 (Option.bind (il [name]) λz3=>(bif (!z3) then
 (some 70)
 else
 (bif (!((mget name d.seen).isSome)) then
 (some 71)
 else
 (some 0))))
def fJ(f_:List (ByteArray×(List UInt8)))(b0:ByteArray)(b1:Int):Option (List (ByteArray×(List UInt8))):=
 (chk (inle b1 (((mget b0 f_).getD []).length)) (some (mput b0 (List.take b1.toNat ((mget b0 f_).getD [])) f_)))
def ji(f_:List (ByteArray×(List UInt8)))(b0:ByteArray):Option (List (ByteArray×(List UInt8))):=
 (some (mdel b0 f_))
def eJ(s_:List UInt8):Option (List UInt8):=
 (some s_)
def jO(f_:List (ByteArray×(List UInt8)))(b0:ByteArray)(b1:(List UInt8)):Option (List (ByteArray×(List UInt8))):=
 (Option.bind (eJ ((mget b0 f_).getD [])) λz9=>(chk (decide (((mget b0 f_).getD []).length+b1.length≤lim)) (some (mput b0 (((mget b0 f_).getD [])++b1) f_))))
def fm(x:aj)(f_:List (ByteArray×(List UInt8))):Option (List (ByteArray×(List UInt8))):=
  match x with
  | .disk_Disk_Cut_1 a0 a1=>fJ f_ a0 a1
  | .disk_Disk_Remove_1 a0=>ji f_ a0
  | .disk_add_1 a0 a1=>jO f_ a0 a1
def df(d:a6)(c_:az):Option (a6×Int):=
 (Option.bind (fm c_.do_ d.seen) λz4=>(chk (decide (d.loose.length+1≤lim)) (some ((⟨d.room,d.safe_,z4,(d.loose++[c_])⟩:a6),0))))
def gU(d:a6)(name:ByteArray)(n:Int):Option (a6×Int):=
 (Option.bind (dZ d name) λz3=>(bif (z3 != 0) then
 (chk (i64b z3) (some (d,z3)))
 else
 (bif ((decide (n<0))||(decide (((((mget name d.seen).getD []).length:Nat):Int)<n))) then
 (some (d,1))
 else
 (Option.bind (df d (⟨(aj.disk_Disk_Cut_1 name n),ByteArray.empty,[]⟩:az)) λz36=>(some (z36.1,z36.2))))))
def cc(p__1:ByteArray)(p__2:Int)(f_:ByteArray)(n:Int)(dk0:a6):Option a6:=
 (Option.bind (cE dk0 f_) λz2=>(bif (decide (n<(z2.1.length:Int))) then
 (Option.bind (gU dk0 f_ n) λz13=>(some z13.1))
 else
 (some dk0)))
def fP(d:a6):Option (List ByteArray):=
 (chk (decide (d.seen.length≤lim)) (some (dI d.seen)))
def ck(s_:ByteArray)(prefix_:ByteArray):Option Bool:=
 (chk (imp (decide ((prefix_.size:Int)≤(s_.size:Int))) (decide (prefix_.size≤s_.size))) (some ((decide ((prefix_.size:Int)≤(s_.size:Int)))&&((s_.extract 0 prefix_.size)==prefix_))))
def bY(s_:ByteArray)(prefix_:ByteArray):Option (ByteArray×Bool):=
 (Option.bind (ck s_ prefix_) λz1=>(bif (!z1) then
 (some (s_,false))
 else
 (chk (decide (prefix_.size≤s_.size)) (some ((s_.extract prefix_.size s_.size),true)))))
def eB(s_:ByteArray)(prefix_:ByteArray):Option (ByteArray×Bool):=
 (Option.bind (bY s_ prefix_) λz1=>(some (z1.1,z1.2)))
def du(s_:ByteArray):Option (ByteArray×ByteArray×Bool):=
 (Option.bind (aR s_) λz1=>(bif (decide (0≤z1)) then
 (chk (inle z1 s_.size) (chk (inle (w64 (z1+1)) s_.size) (some ((s_.extract 0 z1.toNat),(s_.extract ((w64 (z1+1)).toNat) s_.size),true))))
 else
 (some (s_,ByteArray.empty,false))))
def jh(s_:ByteArray):Option (ByteArray×ByteArray×Bool):=
 (Option.bind (du s_) λz1=>(some (z1.1,z1.2.1,z1.2.2)))
def eo(f22:Int→Option (Int×Int))(i23:Nat)(ei23:UInt8):Int→Option (Int×Int):=λn_20=>
 (bif ((decide ((ei23.toNat:Int)<48))||(decide (57<(ei23.toNat:Int)))) then
 (some (0,2))
 else
 (f22 (wu64 ((wu64 (10*n_20))+(wu64 (wu8 ((ei23.toNat:Int) - 48)))))))
def fU(s_:ByteArray):Option (Int×Int):=
 (chk (imp ((!(s_==ByteArray.empty))&&(decide (1<(s_.size:Int)))) (decide (0<s_.size))) (bif (((s_==ByteArray.empty)||((decide (1<(s_.size:Int)))&&((((gt s_.data.toList 0).toNat:Nat):Int)==48)))||(decide (19<(s_.size:Int)))) then
 (some (0,2))
 else
 (forI (eo) (λn_20=>
 (bif (decide (9223372036854775808≤n_20)) then
 (some (0,2))
 else
 (some ((w64 n_20),0)))) 0 (s_.data.toList) 0)))
def bw(Y:ag→ByteArray→Int→Int→Option ag)(b0v1:ByteArray)(f16:ag→Option ag)(i17:Nat)(ei17:ByteArray):ag→Option ag:=λo13=>
 (chk (decide ((b0v1++(⟨#[46]⟩:ByteArray)).size≤lim)) (Option.bind (eB ei17 (b0v1++(⟨#[46]⟩:ByteArray))) λz24=>(chk (decide (z24.1.size≤lim)) (Option.bind (jh z24.1) λz27=>(chk (decide (z27.1.size≤lim)) (Option.bind (fU z27.1) λz30=>(chk (decide (z27.2.1.size≤lim)) (Option.bind (fU z27.2.1) λz33=>(bif ((((((z24.2&&z27.2.2)&&(z30.2==0))&&(z33.2==0))&&(decide (z30.1≤999999)))&&(decide (1≤z33.1)))&&(decide (z33.1≤999999))) then
 (chk (i64b z30.1) (chk (i64b z33.1) (Option.bind (Y o13 ei17 z30.1 z33.1) λz54=>(f16 z54))))
 else
 (f16 o13))))))))))
def fe(Y:ag→ByteArray→Int→Int→Option ag)(sY:ag)(b0v0:a6)(b0v1:ByteArray)(b0v2:Int):Option ag:=
 (Option.bind (fP b0v0) λz1=>(forI (bw Y b0v1) (λo13=>
 (some o13)) 0 z1 sY))
def dm(d:a6)(name:ByteArray):Option (a6×Int):=
 (Option.bind (dZ d name) λz2=>(bif (z2 != 0) then
 (chk (i64b z2) (some (d,z2)))
 else
 (Option.bind (df d (⟨(aj.disk_Disk_Remove_1 name),ByteArray.empty,[]⟩:az)) λz11=>(some (z11.1,z11.2)))))
def cF(pred:Int→Int→Option Bool)(s:ag)(f:ByteArray)(g n:Int):Option ag:=Option.bind (pred g n) λq=>bif q then chk (decide (s.length+1≤lim)) (some (s++[f])) else some s
def fc(k:a6→Option a6)(i:Nat)(f:ByteArray)(d:a6):Option a6:=Option.bind (dm d f) λz=>k z.1
def bH(d:a6)(name:ByteArray)(gen:Int)(pred:Int→Int→Option Bool):Option a6:=Option.bind (fe (cF pred) [] d name gen) λl=>forI fc some 0 l d
def fB(g_:Int)(a1:Int)(b0v:Int):Option Bool:=
 (some (g_ != b0v))
def fy(at_24:Int)(x26:List UInt8):Option ByteArray:=
 (chk (inle at_24 20) (some (⟨(List.drop at_24.toNat x26).toArray⟩:ByteArray)))
def bL(n:Int)(f14:Int×Int×(List UInt8)→Option ByteArray):Int×Int×(List UInt8)→Option ByteArray:=λ(at_6,u_8,x10)=>
 (bif ((at_6==20)||(decide (0<u_8))) then
 (chk (inb (w64 (at_6 - 1)) 20) (f14 ((w64 (at_6 - 1)),(wu64 (u_8.tdiv 10)),(List.set x10 ((w64 (at_6 - 1)).toNat) (b8 (wu8 (wu64 (48+(u_8.tmod 10)))))))))
 else
 (bif (decide (n<0)) then
 (chk (inb (w64 (at_6 - 1)) 20) (fy (w64 (at_6 - 1)) (List.set x10 ((w64 (at_6 - 1)).toNat) (b8 45))))
 else
 (fy at_6 x10)))
def gM(n:Int)(u_3:Int):Option ByteArray:=
 (loopN (bL n) FU (20,u_3,(List.replicate 20 (b8 0))))
def gp(n:Int):Option ByteArray:=
 (bif (decide (n<0)) then
 (gM n (wu64 (0 - (wu64 n))))
 else
 (gM n (wu64 n)))
def cn(p__1:ByteArray)(p__2:Int)(gen:Int)(part:Int):Option ByteArray:=
 (Option.bind (gp gen) λz2=>(chk (decide ((p__1++(⟨#[46]⟩:ByteArray)).size≤lim)) (chk (decide (z2.size≤lim)) (chk (decide (((p__1++(⟨#[46]⟩:ByteArray))++z2).size≤lim)) (Option.bind (gp part) λz7=>(chk (decide ((((p__1++(⟨#[46]⟩:ByteArray))++z2)++(⟨#[46]⟩:ByteArray)).size≤lim)) (chk (decide (z7.size≤lim)) (some ((((p__1++(⟨#[46]⟩:ByteArray))++z2)++(⟨#[46]⟩:ByteArray))++z7)))))))))
def cM(out_3:List (List UInt8))(o8:ai)(o11:a6):Option (ai×a6×(List (List UInt8))):=
 (some ((⟨o8.place_name,o8.place_gen,o8.size,o8.last,o8.tail,(out_3.length:Int),o8.bytes⟩:ai),o11,out_3))
def b5(f28:(List (List UInt8))×Bool×ai×a6→Option (ai×a6×(List (List UInt8)))):(List (List UInt8))×Bool×ai×a6→Option (ai×a6×(List (List UInt8))):=λ(out_16,whole_21,o22,o25)=>
 (bif (whole_21&&(decide (o22.last<999999))) then
 (Option.bind (cn o22.place_name o22.place_gen o22.place_gen (w64 (o22.last+1))) λz40=>(chk (decide (z40.size≤lim)) (Option.bind (cE o25 z40) λz43=>(bif (!z43.2) then
 (cM out_16 o22 o25)
 else
 (Option.bind (jB z43.1) λz60=>(Option.bind (cc o22.place_name o22.place_gen z40 z60.2.1 o25) λz72=>(chk (decide (out_16.length+z60.1.length≤lim)) (f28 ((out_16++z60.1),(z60.2.1==(z43.1.length:Int)),(⟨o22.place_name,o22.place_gen,o22.size,(w64 (o22.last+1)),z60.2.1,o22.count,(w64 (o22.bytes+z60.2.1))⟩:ai),z72)))))))))
 else
 (cM out_16 o22 o25))
def fN(l:ai)(dk0:a6):Option (ai×a6×(List (List UInt8))):=
 (loopN (b5) FU ([],true,l,dk0))
def gS(a0:Int)(n:Int)(b0v:ai):Option Bool:=
 (some (decide (b0v.last<n)))
def ga(d:a6):Option a6:=
 (some (⟨d.room,d.seen,d.seen,[]⟩:a6))
def eL(z48:ai×a6×(List (List UInt8)))(o74:a6):Option (a6×(Option ai)×(List (List UInt8))×Int):=
 (some (o74,(some z48.1),z48.2.2,0))
def gG(d:a6)(name:ByteArray)(size:Int):Option (a6×(Option ai)×(List (List UInt8))×Int):=
 (Option.bind (bM (!((decide ((name.size:Int)<1))||(decide (2<(name.size:Int))))) (eZ name)) λz6=>(bif (((decide ((name.size:Int)<1))||(decide (2<(name.size:Int))))||z6) then
 (some (d,none,[],1))
 else
 (Option.bind (m_seglog_place_holds name 0 d) λz10=>(bif (z10.2.2 != 0) then
 (some (d,none,[],z10.2.2))
 else
 (Option.bind (fM d) λz21=>(Option.bind (et name z10.1) λz24=>(chk (decide (z24.size≤lim)) (Option.bind (cc name z10.1 z24 z10.2.1 d) λz27=>(Option.bind (bH z27 name z10.1 (λx y=>fB x y z10.1)) λz37=>(Option.bind (fN (⟨name,z10.1,(max size 16),0,0,0,0⟩:ai) z37) λz48=>(Option.bind (bH z48.2.1 name z10.1 (λx y=>gS x y z48.1)) λz64=>(Option.bind (fM z64) λz77=>(bif (z77 != z21) then
 (Option.bind (ga z64) λz80=>(eL z48 z80))
 else
 (eL z48 z64))))))))))))))
def ou(b:List UInt8)(at_:Int)(most:Int):Option (ByteArray×Int×Int):=
 (Option.bind (gi b at_) λz1=>(bif (z1.2.2 != 0) then
 (some (ByteArray.empty,0,z1.2.2))
 else
 (bif (decide ((max most 0)<z1.1)) then
 (some (ByteArray.empty,0,3))
 else
 (bif (decide ((w64 ((b.length:Int) - z1.2.1))<z1.1)) then
 (some (ByteArray.empty,0,4))
 else
 (chk (inle (w64 (z1.2.1+z1.1)) b.length) (chk (decide (0≤z1.2.1)) (chk (decide (z1.2.1.toNat≤(w64 (z1.2.1+z1.1)).toNat)) (some ((⟨(List.drop z1.2.1.toNat (List.take ((w64 (z1.2.1+z1.1)).toNat) b)).toArray⟩:ByteArray),(w64 (z1.2.1+z1.1)),0)))))))))
def dD(r_:a7)(z2:ByteArray×Int×Int): Option (Option (a7×ByteArray)):=
 (chk (i64b z2.2.1) (chk (decide (z2.1.size≤lim)) (some (some ((⟨r_.b,z2.2.1⟩:a7),z2.1)))))
def cC(r_:a7):Option (Option (a7×ByteArray)):=
 (Option.bind (ou r_.b r_.at_ (r_.b.length:Int)) λz2=>(bif (z2.2.2 != 0) then
 (some none)
 else
 (dD r_ z2 )))
def ea(r_:a7)(z2:Int×Int×Int): Option (Option (a7×Int)):=
 (chk (i64b z2.2.1) (chk (i64b z2.1) (some (some ((⟨r_.b,z2.2.1⟩:a7),z2.1)))))
def aW(r_:a7):Option (Option (a7×Int)):=
 (Option.bind (gi r_.b r_.at_) λz2=>(bif (z2.2.2 != 0) then
 (some none)
 else
 (ea r_ z2 )))
def cR(r_:a7):Option (Option (a7×Int)):=
 (Option.bind (aW r_) λz1=>(optm z1
 (some none)
 λo3=>
 (some (some (o3.1,o3.2)))))
def dF(x29:Span)(o31:a7): Option (Option (a7×Span)):=
 (some (some (o31,x29)))
def dG(x29:Span)(o31:a7):Option (Option (a7×Span)):=
 (bif (decide (x29.t<x29.f)) then
 (some none)
 else
 (dF x29 o31 ))
def dt(r_:a7):Option (Option (a7×Span)):=
 (Option.bind (cR r_) λz2=>(optm z2
 (some none)
 λo4=>
 (Option.bind (aW o4.1) λz15=>(optm z15
 (some none)
 λo17=>
 (Option.bind (aW o17.1) λz35=>(optm z35
 (some none)
 λo37=>
 (dG (⟨o4.2,o17.2,(w64 (o17.2+o37.2))⟩:Span) o37.1)))))))
def bn(f28:(List Span)×a7→Option (Option (a7×(List Span))))(i29:Nat):(List Span)×a7→Option (Option (a7×(List Span))):=λ(out_20,o25)=>
 (Option.bind (dt o25) λz35=>(optm z35
 (some none)
 λo37=>
 (chk (decide (out_20.length+1≤lim)) (f28 ((out_20++[o37.2]),o37.1)))))
def cV(o3:a7×Int): Option (Option (a7×(List Span))):=
 (forU (bn) (λ(out_20,o25)=>
 (some (some (o25,out_20)))) o3.2.toNat 0 ([],o3.1))
def cL(r_:a7):Option (Option (a7×(List Span))):=
 (Option.bind (aW r_) λz1=>(optm z1
 (some none)
 λo3=>
 (bif (decide ((w64 ((o3.1.b.length:Int) - o3.1.at_))<o3.2)) then
 (some none)
 else
 (cV o3 ))))
def cP(o4:a7×Int)(o17:a7×Int)(o29:a7×(List Span))(x44:Bool)(x45:ByteArray)(o47:a7):Option (Option (a7×Ver)):=
 (some (some (o47,(⟨(⟨o4.2,o17.2⟩:Dot),o29.2,x44,x45⟩:Ver))))
def e7(r_:a7):Option (Option (a7×Ver)):=
 (Option.bind (cR r_) λz2=>(optm z2
 (some none)
 λo4=>
 (Option.bind (aW o4.1) λz15=>(optm z15
 (some none)
 λo17=>
 (Option.bind (cL o17.1) λz27=>(optm z27
 (some none)
 λo29=>
 (Option.bind (aW o29.1) λz50=>(optm z50
 (some none)
 λo52=>
 (bif (o52.2==0) then
 (Option.bind (cC o52.1) λz63=>(optm z63
 (some none)
 λo65=>
 (cP o4 o17 o29 false o65.2 o65.1)))
 else
 (bif (o52.2==1) then
 (cP o4 o17 o29 true ByteArray.empty o52.1)
 else
 (some none)))))))))))
def bu(f28:(List Ver)×a7→Option (Option (a7×(List Ver))))(i29:Nat):(List Ver)×a7→Option (Option (a7×(List Ver))):=λ(out_20,o25)=>
 (Option.bind (e7 o25) λz35=>(optm z35
 (some none)
 λo37=>
 (chk (decide (out_20.length+1≤lim)) (f28 ((out_20++[o37.2]),o37.1)))))
def d8(o3:a7×Int): Option (Option (a7×(List Ver))):=
 (forU (bu) (λ(out_20,o25)=>
 (some (some (o25,out_20)))) o3.2.toNat 0 ([],o3.1))
def d4(r_:a7):Option (Option (a7×(List Ver))):=
 (Option.bind (aW r_) λz1=>(optm z1
 (some none)
 λo3=>
 (bif (decide ((w64 ((o3.1.b.length:Int) - o3.1.at_))<o3.2)) then
 (some none)
 else
 (d8 o3 ))))
def dT(r_:a7):Option (Option (a7×Rec)):=
 (Option.bind (cC r_) λz2=>(optm z2
 (some none)
 λo4=>
 (Option.bind (d4 o4.1) λz14=>(optm z14
 (some none)
 λo16=>
 (some (some (o16.1,(⟨o4.2,o16.2⟩:Rec))))))))
def fa(b0v0:ByteArray)(b0v1:List Ver)(b1v:Int):Option (ByteArray×(List Ver)×Int):=
 (some (ByteArray.empty,[],2))
def gQ(f4:Span→Option Bool)(i5:Nat)(ei5:Span):Span→Option Bool:=λx2=>
 (bif (((((((decide (ei5.s<1))||(decide (16<ei5.s)))||(decide (ei5.f<1)))||(decide (ei5.t<ei5.f)))||(decide (4611686018427387904<ei5.t)))||(decide (ei5.s<x2.s)))||((ei5.s==x2.s)&&(decide (ei5.f≤(w64 (x2.t+1)))))) then
 (some false)
 else
 (f4 ei5))
def fj(l:List Span):Option Bool:=
 (forI (gQ) (λx2=>
 (some (decide ((l.length:Int)≤1024)))) 0 l (⟨0,0,0⟩:Span))
def gC(f3:Int→Option Int)(top_10:Int):Option Int:=
 (f3 top_10)
def gK(s_:Int)(f3:Int→Option Int)(i4:Nat)(ei4:Span):Int→Option Int:=λtop_1=>
 (bif (ei4.s==s_) then
 (gC f3 (max top_1 ei4.t))
 else
 (gC f3 top_1))
def iX(l:List Span)(s_:Int):Option Int:=
 (forI (gK s_) (λtop_1=>
 (some top_1)) 0 l 0)
def dR(v_:Ver):Option Bool:=
 (Option.bind (fj [(⟨v_.dot.s,v_.dot.n,v_.dot.n⟩:Span)]) λz6=>(Option.bind (bM z6 (fj v_.past)) λz11=>(Option.bind (bM (z6&&z11) (iX v_.past v_.dot.s)) λz22=>(some ((((z6&&z11)&&(decide (z22<v_.dot.n)))&&(decide ((v_.val.size:Int)≤256)))&&((!v_.gone)||(v_.val==ByteArray.empty)))))))
def gI(a:Dot)(b:Dot):Option Bool:=
 (some ((decide (a.s<b.s))||((a.s==b.s)&&(decide (a.n<b.n)))))
def jd(d:Dot)(f2:Unit→Option Bool)(i3:Nat)(ei3:Span):Unit→Option Bool:=λ_=>
 (bif (((ei3.s==d.s)&&(decide (ei3.f≤d.n)))&&(decide (d.n≤ei3.t))) then
 (some true)
 else
 (f2 ()))
def kr(l:List Span)(d:Dot):Option Bool:=
 (forI (jd d) (λ_=>
 (some false)) 0 l ())
def gg(d:Dot)(f2:Unit→Option Bool)(i3:Nat)(ei3:Ver):Unit→Option Bool:=λ_=>
 (Option.bind (kr (ei3.past) d) λz13=>(bif z13 then
 (some true)
 else
 (f2 ())))
def dc(d:Dot)(l:List Ver):Option Bool:=
 (forI (gg d) (λ_=>
 (some false)) 0 l ())
def jF(l:List Ver)(f1:Unit→Option Bool)(i2:Nat)(ei2:Ver):Unit→Option Bool:=λ_=>
 (Option.bind (dR ei2) λz12=>(chk (imp ((!(!z12))&&(decide (0<(i2:Int)))) (inb (w64 ((i2:Int) - 1)) l.length)) (Option.bind (bM ((!(!z12))&&(decide (0<(i2:Int)))) (gI ((gt l ((w64 ((i2:Int) - 1)).toNat)).dot) (ei2.dot))) λz30=>(Option.bind (bM (!((!z12)||((decide (0<(i2:Int)))&&(!z30)))) (dc (ei2.dot) l)) λz38=>(bif (((!z12)||((decide (0<(i2:Int)))&&(!z30)))||z38) then
 (some false)
 else
 (f1 ()))))))
def dV(l:List Ver):Option Bool:=
 (forI (jF l) (λ_=>
 (some (decide ((l.length:Int)≤512)))) 0 l ())
def bc(r_:Rec):Option Bool:=
 (Option.bind (bM ((decide (1≤(r_.key.size:Int)))&&(decide ((r_.key.size:Int)≤32))) (dV r_.vers)) λz9=>(some (((decide (1≤(r_.key.size:Int)))&&(decide ((r_.key.size:Int)≤32)))&&z9)))
def cS(o7:a7×Rec): Option (Rec×Int):=
 (some (o7.2,0))
def dW(b:List UInt8):Option (Rec×Int):=
 (Option.bind (dT (⟨b,0⟩:a7)) λz5=>(optm z5
 (Option.bind (fa ByteArray.empty [] 0) λz10=>(some ((⟨z10.1,z10.2.1⟩:Rec),z10.2.2)))
 λo7=>
 (Option.bind (bM (!(o7.1.at_ != (b.length:Int))) (bc o7.2)) λz35=>(bif ((o7.1.at_ != (b.length:Int))||(!z35)) then
 (Option.bind (fa o7.2.key o7.2.vers 0) λz41=>(some ((⟨z41.1,z41.2.1⟩:Rec),z41.2.2)))
 else
 (cS o7 )))))
def fX(b:List UInt8):Option (Rec×Int):=
 (Option.bind (dW b) λz2=>(some (z2.1,z2.2)))
def ci(s_:a8)(r_:Rec)(b:List UInt8):Option a8:=
 (bif (decide (0<(r_.vers.length:Int))) then
 (some (⟨s_.log,(mput r_.key b (mdel r_.key s_.keys))⟩:a8))
 else
 (some (⟨s_.log,(mdel r_.key s_.keys)⟩:a8)))
def dP(z1:a6×(Option ai)×(List (List UInt8))×Int)(f31:a8→Option (a6×(Option a8)×Int))(i32:Nat)(ei32:(List UInt8)):a8→Option (a6×(Option a8)×Int):=λo28=>
 (Option.bind (fX ei32) λz41=>(bif (z41.2 != 0) then
 (some (z1.1,none,z41.2))
 else
 (Option.bind (ci o28 z41.1 ei32) λz53=>(f31 z53))))
def gh(d:a6)(name:ByteArray)(size:Int):Option (a6×(Option a8)×Int):=
 (Option.bind (gG d name size) λz1=>(bif (z1.2.2.2 != 0) then
 (some (z1.1,none,z1.2.2.2))
 else
 (Option.bind z1.2.1 λz21=>(forI (dP z1) (λo28=>
 (some (z1.1,(some o28),0))) 0 z1.2.2.1 (⟨z21,([]:List (ByteArray×(List UInt8)))⟩:a8)))))
def iz(f_37:Int)(f45:Int×(List (Int×a8))×a6→Option (a6×(Option aa)×Int))(m52:List (Int×a8))(o55:a6):Option (a6×(Option aa)×Int):=
 (f45 ((w64 (f_37+1)),m52,o55))
def eE(self:Adr)(size:Int)(life:Int)(z31:a8)(f45:Int×(List (Int×a8))×a6→Option (a6×(Option aa)×Int)):Int×(List (Int×a8))×a6→Option (a6×(Option aa)×Int):=λ(f_37,m39,o42)=>
 (bif (decide (f_37≤8)) then
 (bif (f_37==self.node) then
 (iz f_37 f45 m39 o42)
 else
 (Option.bind (gp f_37) λz60=>(chk (decide (z60.size≤lim)) (chk (decide (((⟨#[104]⟩:ByteArray)++z60).size≤lim)) (Option.bind (gh o42 ((⟨#[104]⟩:ByteArray)++z60) size) λz64=>(Option.bind z64.2.1 λz76=>(chk (!((mget f_37 m39).isSome)) (bif (z64.2.2 != 0) then
 (some (z64.1,none,z64.2.2))
 else
 (iz f_37 f45 (mput f_37 z76 m39) z64.1)))))))))
 else
 (some (o42,(some (⟨life,self.site,self.node,z31,m39,(mput 17 29 (mput 9 28 (mput 8 27 (mput 6 26 (mput 4 25 (mput 2 24 (mput 1 23 ([]:List (Int×Nat)))))))))⟩:aa)),0)))
def jr(d:a6)(self:Adr)(size:Int)(life:Int):Option (a6×(Option aa)×Int):=
 (bif (((((decide (life<0))||(decide (self.site<1)))||(decide (16<self.site)))||(decide (self.node<1)))||(decide (8<self.node))) then
 (some (d,none,1))
 else
 (Option.bind (gh d (⟨#[100]⟩:ByteArray) size) λz15=>(bif (z15.2.2 != 0) then
 (some (z15.1,none,z15.2.2))
 else
 (Option.bind z15.2.1 λz31=>(loopN (eE self size life z31) FU (1,([]:List (Int×a8)),z15.1))))))
def j0(key:ByteArray)(s_:Int)(n:Int):Option Rec:=
 (some (⟨key,[(⟨(⟨s_,n⟩:Dot),[],false,(⟨#[118]⟩:ByteArray)⟩:Ver)]⟩:Rec))
def j5(to_:Int)(r_:List Rec):Option ae:=
 (Option.bind (cZ 0) λz2=>(Option.bind (cZ to_) λz4=>(chk (i64b z2.site) (chk (i64b z2.node) (chk (i64b z4.site) (chk (i64b z4.node) (some (⟨1,(⟨z2.site,z2.node⟩:Adr),(⟨z4.site,z4.node⟩:Adr),5,0,0,0,ByteArray.empty,r_,[],[],[],[]⟩:ae))))))))
def ip(a:Adr):Option Bool:=
 (some ((((decide (1≤a.site))&&(decide (a.site≤16)))&&(decide (0≤a.node)))&&(decide (a.node≤8))))
def iO(f1:Unit→Option Bool)(i2:Nat)(ei2:Rec):Unit→Option Bool:=λ_=>
 (Option.bind (bc ei2) λz12=>(bif (!z12) then
 (some false)
 else
 (f1 ())))
def eY(l:List Rec)(most:Int):Option Bool:=
 (forI (iO) (λ_=>
 (some (decide ((l.length:Int)≤most)))) 0 l ())
def jk(lo:Int)(hi:Int):Option (Int×Int):=
 (some (lo,hi))
def gW(lo:Int)(hi:Int):Option (Int×Int):=
 (some (lo,hi))
def iD(n:Int)(b0v:Int)(b1v:Int):Option Bool:=
 (some ((decide (b0v≤n))&&(decide (n≤b1v))))
def nG(ok0v:Int)(ok1v:Int)(f3:Unit→Option Bool)(i4:Nat)(ei4:Int):Unit→Option Bool:=λ_=>
 (Option.bind (iD ei4 ok0v ok1v) λz10=>(bif (!z10) then
 (some false)
 else
 (f3 ())))
def lh(l:List Int)(most:Int)(ok0v:Int)(ok1v:Int):Option Bool:=
 (forI (nG ok0v ok1v) (λ_=>
 (some (decide ((l.length:Int)≤most)))) 0 l ())
def ju(n:Int)(b0v:Int)(b1v:Int):Option Bool:=
 (some ((decide (b0v≤n))&&(decide (n≤b1v))))
def oQ(ok0v:Int)(ok1v:Int)(f3:Unit→Option Bool)(i4:Nat)(ei4:Int):Unit→Option Bool:=λ_=>
 (Option.bind (ju ei4 ok0v ok1v) λz10=>(bif (!z10) then
 (some false)
 else
 (f3 ())))
def ka(l:List Int)(most:Int)(ok0v:Int)(ok1v:Int):Option Bool:=
 (forI (oQ ok0v ok1v) (λ_=>
 (some (decide ((l.length:Int)≤most)))) 0 l ())
def fA(m:ae):Option Bool:=
 (Option.bind (bM ((decide (1≤m.kind))&&(decide (m.kind≤17))) (ip m.from_)) λz9=>(Option.bind (bM (((decide (1≤m.kind))&&(decide (m.kind≤17)))&&z9) (ip m.to_)) λz14=>(Option.bind (bM (((((((((((decide (1≤m.kind))&&(decide (m.kind≤17)))&&z9)&&z14)&&(decide (0≤m.id)))&&(decide (0≤m.n)))&&(decide (0≤m.for_)))&&(decide (m.for_≤8)))&&(decide (0≤m.code)))&&(decide (m.code≤999)))&&(decide ((m.key.size:Int)≤32))) (eY m.recs (m.recs.length:Int))) λz44=>(bif ((((((((((((decide (1≤m.kind))&&(decide (m.kind≤17)))&&z9)&&z14)&&(decide (0≤m.id)))&&(decide (0≤m.n)))&&(decide (0≤m.for_)))&&(decide (m.for_≤8)))&&(decide (0≤m.code)))&&(decide (m.code≤999)))&&(decide ((m.key.size:Int)≤32)))&&z44) then
 (Option.bind (jk 0 4611686018427387904) λz49=>(Option.bind (lh m.vec 16 z49.1 z49.2) λz59=>(bif z59 then
 (Option.bind (gW 0 15) λz68=>(Option.bind (ka m.path 2 z68.1 z68.2) λz78=>(bif (z78&&(decide ((m.hashes.length:Int)≤16))) then
 (Option.bind (gW 1 16) λz91=>(Option.bind (ka m.route 16 z91.1 z91.2) λz101=>(some z101)))
 else
 (some false))))
 else
 (some false))))
 else
 (some false)))))
def bD(s_:a8)(key:ByteArray):Option (List Ver):=
 (Option.bind (fX ((mget key s_.keys).getD [])) λz9=>(some z9.1.vers))
def cz(l:List Span):Option (List Span):=
 (chk (decide (0+l.length≤lim)) (some l))
def eI(v_:Ver)(b0v:List Ver)(b1v:List Ver)(b2v:List Ver):Option (List Ver):=
 (Option.bind (dc v_.dot b0v) λz2=>(Option.bind (bM (!z2) (dc v_.dot b1v)) λz8=>(bif ((!z2)&&(!z8)) then
 (Option.bind (cz v_.past) λz12=>(chk (decide (b2v.length+1≤lim)) (some (b2v++[(⟨(⟨v_.dot.s,v_.dot.n⟩:Dot),z12,v_.gone,v_.val⟩:Ver)]))))
 else
 (some b2v))))
def nb(b:Ver)(f21:Unit→Option Bool)(i22:Nat)(ei22:Span):Unit→Option Bool:=λ_=>
 (chk (decide (i22<b.past.length)) (bif (ei22 != (gt b.past i22)) then
 (some false)
 else
 (f21 ())))
def jo(a:Ver)(b:Ver):Option Bool:=
 (bif ((((a.dot != b.dot)||(a.gone != b.gone))||(a.val != b.val))||((a.past.length:Int) != (b.past.length:Int))) then
 (some false)
 else
 (forI (nb b) (λ_=>
 (some true)) 0 a.past ()))
def fv(a:List Ver)(b:List Ver)(f24:Bool×Int×Int×(List Ver)→Option ((List Ver)×Int)):Bool×Int×Int×(List Ver)→Option ((List Ver)×Int):=λ(twin_14,i_15,k_17,x19)=>
 (bif ((decide (i_15<(a.length:Int)))||(decide (k_17<(b.length:Int)))) then
 (chk (imp ((!(k_17==(b.length:Int)))&&(decide (i_15<(a.length:Int)))) (inb i_15 a.length)) (chk (imp ((!(k_17==(b.length:Int)))&&(decide (i_15<(a.length:Int)))) (inb k_17 b.length)) (Option.bind (bM ((!(k_17==(b.length:Int)))&&(decide (i_15<(a.length:Int)))) (gI ((gt a i_15.toNat).dot) ((gt b k_17.toNat).dot))) λz57=>(bif ((k_17==(b.length:Int))||((decide (i_15<(a.length:Int)))&&z57)) then
 (chk (inb i_15 a.length) (Option.bind (eI (gt a i_15.toNat) a b x19) λz62=>(f24 (twin_14,(w64 (i_15+1)),k_17,z62))))
 else
 (chk (imp (decide (i_15<(a.length:Int))) (inb i_15 a.length)) (chk (imp (decide (i_15<(a.length:Int))) (inb k_17 b.length)) (bif ((decide (i_15<(a.length:Int)))&&((gt a i_15.toNat).dot==(gt b k_17.toNat).dot)) then
 (chk (imp (!twin_14) (inb i_15 a.length)) (chk (imp (!twin_14) (inb k_17 b.length)) (Option.bind (bM (!twin_14) (jo (gt a i_15.toNat) (gt b k_17.toNat))) λz97=>(f24 ((twin_14||(!z97)),(w64 (i_15+1)),k_17,x19)))))
 else
 (chk (inb k_17 b.length) (Option.bind (eI (gt b k_17.toNat) a b x19) λz101=>(f24 (twin_14,i_15,(w64 (k_17+1)),z101)))))))))))
 else
 (bif twin_14 then
 (some ([],50))
 else
 (bif (decide (512<(x19.length:Int))) then
 (some ([],3))
 else
 (some (x19,0)))))
def gc(a:List Ver)(b:List Ver):Option ((List Ver)×Int):=
 (Option.bind (dV a) λz3=>(Option.bind (bM (!(!z3)) (dV b)) λz7=>(bif ((!z3)||(!z7)) then
 (some ([],1))
 else
 (loopN (fv a b) FU (false,0,0,[])))))
def mF(a:List Ver)(b:List Ver)(f1:Unit→Option Bool)(i2:Nat):Unit→Option Bool:=λ_=>
 (chk (decide (i2<a.length)) (chk (decide (i2<b.length)) (Option.bind (jo (gt a i2) (gt b i2)) λz16=>(bif (!z16) then
 (some false)
 else
 (f1 ())))))
def jx(a:List Ver)(b:List Ver):Option Bool:=
 (forU (mF a b) (λ_=>
 (some ((a.length:Int)==(b.length:Int)))) ((min (a.length:Int) (b.length:Int)).toNat) 0 ())
def dM(f7:(List UInt8)×Int→Option (List UInt8)):(List UInt8)×Int→Option (List UInt8):=λ(b_1,u_6)=>
 (bif (decide (127<u_6)) then
 (chk (u8b (ior .u8 (wu8 u_6) 128)) (chk (decide (b_1.length+1≤lim)) (f7 ((b_1++[(b8 (ior .u8 (wu8 u_6) 128))]),(ishr .u64 u_6 7)))))
 else
 (chk (decide (b_1.length+1≤lim)) (some (b_1++[(b8 (wu8 u_6))]))))
def gr(n:Int):Option (List UInt8):=
 (loopN (dM) FU ([],(wu64 (max n 0))))
def kN(s_:ByteArray):Option (List UInt8):=
 (Option.bind (gr (s_.size:Int)) λz1=>(chk (decide (z1.length+s_.size≤lim)) (some (z1++s_.data.toList))))
def dv(w_:ac)(s_:ByteArray):Option ac:=
 (Option.bind (kN s_) λz2=>(chk (decide (w_.b.length+z2.length≤lim)) (some (⟨(w_.b++z2)⟩:ac))))
def bZ(w_:ac)(n:Int):Option ac:=
 (Option.bind (gr n) λz2=>(chk (decide (w_.b.length+z2.length≤lim)) (some (⟨(w_.b++z2)⟩:ac))))
def bm(w_:ac)(n:Int):Option ac:=
 (Option.bind (bZ w_ n) λz1=>(some z1))
def dp(w_:ac)(x_:Span):Option ac:=
 (Option.bind (bm w_ x_.s) λz2=>(Option.bind (bZ z2 x_.f) λz10=>(Option.bind (bZ z10 (w64 (x_.t - x_.f))) λz18=>(some z18))))
def bv(f14:ac→Option ac)(i15:Nat)(ei15:Span):ac→Option ac:=λo11=>
 (Option.bind (dp o11 ei15) λz22=>(f14 z22))
def d6(w_:ac)(l:List Span):Option ac:=
 (Option.bind (bm w_ (l.length:Int)) λz1=>(forI (bv) (λo11=>
 (some o11)) 0 l z1))
def cT(w_:ac)(v_:Ver):Option ac:=
 (Option.bind (bm w_ v_.dot.s) λz2=>(Option.bind (bZ z2 v_.dot.n) λz10=>(Option.bind (d6 z10 v_.past) λz18=>(bif v_.gone then
 (Option.bind (bm z18 1) λz27=>(some z27))
 else
 (Option.bind (bm z18 0) λz35=>(Option.bind (dv z35 v_.val) λz43=>(some z43)))))))
def bF(f14:ac→Option ac)(i15:Nat)(ei15:Ver):ac→Option ac:=λo11=>
 (Option.bind (cT o11 ei15) λz25=>(f14 z25))
def eU(w_:ac)(l:List Ver):Option ac:=
 (Option.bind (bm w_ (l.length:Int)) λz1=>(forI (bF) (λo11=>
 (some o11)) 0 l z1))
def e8(w_:ac)(r_:Rec):Option ac:=
 (Option.bind (dv w_ r_.key) λz2=>(Option.bind (eU z2 r_.vers) λz10=>(some z10)))
def eh(r_:Rec):Option ((List UInt8)×Int):=
 (Option.bind (bc r_) λz2=>(bif (!z2) then
 (some ([],1))
 else
 (Option.bind (e8 (⟨[]⟩:ac) r_) λz7=>(some (z7.b,0)))))
def jZ(z13:Int)(f20:List UInt8→Option ((List UInt8)×Int))(i21:Nat):List UInt8→Option ((List UInt8)×Int):=λout_15=>
 (chk (decide (0≤(w64 (8*(i21:Int))))) (chk (decide (out_15.length+1≤lim)) (f20 (out_15++[(b8 (wu8 (ishr .u32 z13 (w64 (8*(i21:Int))))))]))))
def hQ(b:List UInt8):Option ((List UInt8)×Int):=
 (bif (decide (1048576<(b.length:Int))) then
 (some ([],3))
 else
 (Option.bind (gr (b.length:Int)) λz2=>(Option.bind (jw ([z2,b]:List (List UInt8))) λz13=>(forU (jZ z13) (λout_15=>
 (chk (decide (out_15.length+b.length≤lim)) (some ((out_15++b),0)))) 4 0 z2))))
def eC:Int→(ByteArray×(List UInt8))→Option Int:=λn_12 en23=>
 (some (w64 (n_12+(en23.2.length:Int))))
def gm(d:a6):Option Int:=
 (Option.bind (fldO (eC) 0 d.seen) (λn_12=>
 (some n_12)))
def nY(name:ByteArray)(b:List UInt8):Option aj:=
 (some (aj.disk_add_1 name b))
def fg(d:a6)(name:ByteArray)(b:List UInt8):Option (a6×Int):=
 (Option.bind (il [name]) λz3=>(bif (!z3) then
 (some (d,70))
 else
 (Option.bind (gm d) λz7=>(bif (decide ((w64 (d.room - z7))<(b.length:Int))) then
 (some (d,72))
 else
 (Option.bind (bJ b) λz11=>(Option.bind (nY name z11) λz26=>(Option.bind (df d (⟨z26,name,z11⟩:az)) λz36=>(some (z36.1,z36.2)))))))))
def fl(l:ai)(part_15:Int)(tail_17:Int)(f_40:List UInt8)(e_45:Int)(o47:a6):Option (ai×a6×Int):=
 (bif (e_45 != 0) then
 (some (l,o47,e_45))
 else
 (some ((⟨l.place_name,l.place_gen,l.size,part_15,(w64 (tail_17+(f_40.length:Int))),(w64 (l.count+1)),(w64 (l.bytes+(f_40.length:Int)))⟩:ai),o47,0)))
def cd(l:ai)(dk0:a6)(z1:(List UInt8)×Int)(part_15:Int)(tail_17:Int):Option (ai×a6×Int):=
 (bif (decide (999999<part_15)) then
 (some (l,dk0,72))
 else
 (Option.bind (cn l.place_name l.place_gen l.place_gen part_15) λz57=>(chk (decide (z57.size≤lim)) (Option.bind (fg dk0 z57 z1.1) λz60=>(fl l part_15 tail_17 z1.1 z60.2 z60.1)))))
def eq(l:ai)(b:List UInt8)(dk0:a6):Option (ai×a6×Int):=
 (Option.bind (hQ b) λz1=>(bif (z1.2 != 0) then
 (some (l,dk0,z1.2))
 else
 (bif ((l.last==0)||((decide (0<l.tail))&&(decide ((w64 (l.size - l.tail))<(z1.1.length:Int))))) then
 (cd l dk0 z1 (w64 (l.last+1)) 0)
 else
 (cd l dk0 z1 l.last l.tail))))
def fH(l:ai)(dk0:a6):Option a6:=
 (Option.bind (ga dk0) λz2=>(some z2))
def cQ(r_:Rec)(b_15:List UInt8)(e_20:Int)(o22:a8)(o25:a6):Option (a8×a6×Int):=
 (bif (e_20 != 0) then
 (some (o22,o25,e_20))
 else
 (Option.bind (fH o22.log o25) λz54=>(Option.bind (ci o22 r_ b_15) λz63=>(some (z63,z54,0)))))
def cX(s_:a8)(r_:Rec)(dk0:a6):Option (a8×a6×Int):=
 (Option.bind (eh r_) λz2=>(bif (z2.2==0) then
 (Option.bind (eq s_.log z2.1 dk0) λz35=>(cQ r_ z2.1 z35.2.2 (⟨z35.1,s_.keys⟩:a8) z35.2.1))
 else
 (cQ r_ z2.1 z2.2 s_ dk0)))
def gE(f9:a8×a6→Option (a8×a6×Int))(e_43:Int)(o45:a8)(o48:a6):Option (a8×a6×Int):=
 (bif (e_43 != 0) then
 (some (o45,o48,e_43))
 else
 (f9 (o45,o48)))
def ef(f9:a8×a6→Option (a8×a6×Int))(i10:Nat)(ei10:Rec):a8×a6→Option (a8×a6×Int):=λ(o3,o6)=>
 (Option.bind (bD o3 (ei10.key)) λz20=>(Option.bind (gc z20 (ei10.vers)) λz30=>(Option.bind (bM (z30.2==0) (jx z30.1 z20)) λz54=>(bif ((z30.2==0)&&(!z54)) then
 (Option.bind (cX o3 (⟨ei10.key,z30.1⟩:Rec) o6) λz63=>(gE f9 z63.2.2 z63.1 z63.2.1))
 else
 (gE f9 z30.2 o3 o6)))))
def j3(s_:a8)(list:List Rec)(dk0:a6):Option (a8×a6×Int):=
 (forI (ef) (λ(o3,o6)=>
 (some (o3,o6,0))) 0 list (s_,dk0))
def fV(a:ae)(b0v:aa)(b1:ae)(b2v:List ae):Option (List ae):=
 (chk (decide (b2v.length+1≤lim)) (some (b2v++[(⟨a.kind,(⟨b0v.self_site,b0v.self_node⟩:Adr),(⟨b1.from_.site,b1.from_.node⟩:Adr),b1.id,a.n,a.for_,a.code,a.key,a.recs,a.vec,a.path,a.hashes,a.route⟩:ae)])))
def kR(f27:List Ver→Option (List Rec))(i28:Nat)(ei28:Ver):List Ver→Option (List Rec):=λx22=>
 (chk (decide (0+(ei28.past).length≤lim)) (chk (decide (x22.length+1≤lim)) (f27 (x22++[ei28]))))
def kS(f8:List Rec→Option (List Rec))(i9:Nat)(ei9:Rec):List Rec→Option (List Rec):=λout_3=>
 (forI (kR) (λx22=>
 (chk (decide (out_3.length+1≤lim)) (f8 (out_3++[(⟨ei9.key,x22⟩:Rec)])))) 0 (ei9.vers) [])
def iR(l:List Rec):Option (List Rec):=
 (forI (kS) (λout_3=>
 (some out_3)) 0 l [])
def lP(n:aa)(m:ae)(answer1:ae)(answer2v:List ae)(dk0:a6):Option (aa×(List ae)×a6):=
 (bif ((m.for_ != 0)&&(m.for_ != n.self_node)) then
 (Option.bind (mget m.for_ n.hints) λo13=>(Option.bind (j3 o13 m.recs dk0) λz25=>(some ((⟨n.life,n.self_site,n.self_node,n.own,(mput m.for_ z25.1 n.hints),n.does⟩:aa),answer2v,z25.2.1))))
 else
 (Option.bind (j3 n.own m.recs dk0) λz41=>(bif (z41.2.2 != 0) then
 (Option.bind (fV (⟨3,(⟨0,0⟩:Adr),(⟨0,0⟩:Adr),0,0,0,z41.2.2,ByteArray.empty,[],[],[],[],[]⟩:ae) (⟨n.life,n.self_site,n.self_node,z41.1,n.hints,n.does⟩:aa) answer1 answer2v) λz54=>(some ((⟨n.life,n.self_site,n.self_node,z41.1,n.hints,n.does⟩:aa),z54,z41.2.1)))
 else
 (Option.bind (iR m.recs) λz67=>(Option.bind (fV (⟨2,(⟨0,0⟩:Adr),(⟨0,0⟩:Adr),0,(⟨n.life,n.self_site,n.self_node,z41.1,n.hints,n.does⟩:aa).life,0,0,ByteArray.empty,z67,[],[],[],[]⟩:ae) (⟨n.life,n.self_site,n.self_node,z41.1,n.hints,n.does⟩:aa) answer1 answer2v) λz83=>(some ((⟨n.life,n.self_site,n.self_node,z41.1,n.hints,n.does⟩:aa),z83,z41.2.1)))))))
def p5(a:List Ver)(b:List Ver):Option Bool:=
 (Option.bind (gc a b) λz1=>(Option.bind (bM (z1.2==0) (jx z1.1 a)) λz15=>(some ((z1.2==0)&&(!z15)))))
def gx(f28:a8×a6→Option (aa×a6))(o37:a8)(o40:a6):Option (aa×a6):=
 (f28 (o37,o40))
def nA(f28:a8×a6→Option (aa×a6))(i29:Nat)(ei29:Rec):a8×a6→Option (aa×a6):=λ(o22,o25)=>
 (Option.bind (bD o22 (ei29.key)) λz47=>(Option.bind (bM (decide (0<(z47.length:Int))) (p5 (ei29.vers) z47)) λz61=>(bif ((decide (0<(z47.length:Int)))&&(!z61)) then
 (Option.bind (cX o22 (⟨ei29.key,[]⟩:Rec) o25) λz65=>(gx f28 z65.1 z65.2.1))
 else
 (gx f28 o22 o25))))
def l3(n:aa)(m:ae)(a21:ae)(a22v:List ae)(dk0:a6):Option (aa×a6):=
 (optm (mget m.from_.node n.hints)
 ((some (n,dk0)))
 λo4=>
 (forI (nA) (λ(o22,o25)=>
 (some ((⟨n.life,n.self_site,n.self_node,n.own,(mput m.from_.node o22 n.hints),n.does⟩:aa),o25))) 0 m.recs (o4,dk0)))
def dA(x28:List ae)(o33:aa)(o36:a6):Option (aa×a6×(List ae)):=
 (some (o33,o36,x28))
def eX(n:aa)(m:ae)(dk0:a6):Option (aa×a6×(List ae)):=
 (Option.bind (fA m) λz4=>(bif (((!z4)||(m.to_ != (⟨n.self_site,n.self_node⟩:Adr)))||(m.from_.site != n.self_site)) then
 (some (n,dk0,[]))
 else
 (optm (mget m.kind n.does)
 ((dA [] n dk0))
 λa42=>
 (bif (a42==23) then
 (Option.bind (lP n m m [] dk0) λz50=>(dA z50.2.1 z50.1 z50.2.2))
 else
 (bif (a42==24) then
 (Option.bind (l3 n m m [] dk0) λz67=>(dA [] z67.1 z67.2))
 else
 none)))))
def ft(s_:a8):Option (List ByteArray):=
 (chk (decide (s_.keys.length≤lim)) (some (dI s_.keys)))
def bG(s_:a8)(f18:List Rec→Option (List Rec))(i19:Nat)(ei19:ByteArray):List Rec→Option (List Rec):=λout_13=>
 (Option.bind (bD s_ ei19) λz25=>(chk (decide (out_13.length+1≤lim)) (f18 (out_13++[(⟨ei19,z25⟩:Rec)]))))
def bP(s_:a8):Option (List Rec):=
 (Option.bind (ft s_) λz1=>(forI (bG s_) (λout_13=>
 (some out_13)) 0 z1 []))
def fR(n:aa)(f_:Int):Option (List Rec):=
 (optm (mget f_ n.hints)
 ((some []))
 λo2=>
 (Option.bind (bP o2) λz18=>(some z18)))
def nB(n:aa)(f_8:Int)(f32:List ae→Option (List ae))(i33:Nat)(ei33:Rec):List ae→Option (List ae):=λout_27=>
 (chk (decide (out_27.length+1≤lim)) (f32 (out_27++[(⟨1,(⟨n.self_site,n.self_node⟩:Adr),(⟨n.self_site,f_8⟩:Adr),0,0,0,0,ByteArray.empty,[ei33],[],[],[],[]⟩:ae)])))
def nD(n:aa)(f10:(List ae)×Int→Option (List ae)):(List ae)×Int→Option (List ae):=λ(out_3,f_8)=>
 (bif (decide (f_8≤8)) then
 (Option.bind (fR n f_8) λz15=>(forI (nB n f_8) (λout_27=>
 (f10 (out_27,(w64 (f_8+1))))) 0 z15 out_3))
 else
 (some out_3))
def l8(n:aa):Option (List ae):=
 (loopN (nD n) FU ([],1))
def nS(f3:Int→Option Int)(i4:Nat)(ei4:UInt8):Int→Option Int:=λh_1=>
 (f3 (wu64 ((ixor .u64 h_1 (wu64 (ei4.toNat:Int)))*1099511628211)))
def lr(b:List UInt8):Option Int:=
 (forI (nS) (λh_1=>
 (some (ixor .u64 (wu64 ((ixor .u64 h_1 (ishr .u64 h_1 33))*18397679294719823053)) (ishr .u64 (wu64 ((ixor .u64 h_1 (ishr .u64 h_1 33))*18397679294719823053)) 33)))) 0 b 14695981039346656037)
def fS(key:ByteArray):Option Int:=
 (Option.bind (lr (key.data.toList)) λz7=>(some (w64 (z7.tmod 8))))
def d7(f18:List Rec→Option (List Rec))(out_25:List Rec):Option (List Rec):=
 (f18 out_25)
def cm(p_:Int)(f18:List Rec→Option (List Rec))(i19:Nat)(ei19:Rec):List Rec→Option (List Rec):=λout_13=>
 (Option.bind (bM (!(decide (p_<0))) (fS (ei19.key))) λz37=>(bif ((decide (p_<0))||(z37==p_)) then
 (chk (decide (out_13.length+1≤lim)) (d7 f18 (out_13++[ei19])))
 else
 (d7 f18 out_13)))
def aL(n:aa)(p_:Int):Option (List Rec):=
 (Option.bind (bP n.own) λz2=>(forI (cm p_) (λout_13=>
 (some out_13)) 0 z2 []))
def fk: Option Bool:=
 (Option.bind (kd 5000) λz1=>(Option.bind (cZ 1) λz10=>(chk (i64b z10.site) (chk (i64b z10.node) (Option.bind (jr z1 z10 256 3) λz14=>(bif ((Option.isNone z14.2.1)||(z14.2.2 != 0)) then
 (some false)
 else
 (Option.bind z14.2.1 λz29=>(Option.bind (j0 (⟨#[107]⟩:ByteArray) 1 1) λz32=>(Option.bind (j5 1 [z32]) λz48=>(Option.bind (eX z29 z48 z14.1) λz65=>(Option.bind (j0 (⟨#[107]⟩:ByteArray) 2 1) λz79=>(Option.bind (j5 1 [z79]) λz95=>(Option.bind (eX z65.1 (⟨z95.kind,(⟨z95.from_.site,z95.from_.node⟩:Adr),(⟨z95.to_.site,z95.to_.node⟩:Adr),z95.id,z95.n,3,z95.code,z95.key,z95.recs,z95.vec,z95.path,z95.hashes,z95.route⟩:ae) z65.2.1) λz113=>(Option.bind (l8 z113.1) λz127=>(chk (imp (!((z65.2.2.length:Int) != 1)) (decide (0<z65.2.2.length))) (chk (imp (!(((((z65.2.2.length:Int) != 1)||((gt z65.2.2 0).kind != 2))||((z113.2.2.length:Int) != 0))||((z127.length:Int) != 1))) (decide (0<z127.length))) (Option.bind (bM (!(((((z65.2.2.length:Int) != 1)||((gt z65.2.2 0).kind != 2))||((z113.2.2.length:Int) != 0))||((z127.length:Int) != 1))) (cZ 3)) λz178=>(bif (!((((((z65.2.2.length:Int) != 1)||((gt z65.2.2 0).kind != 2))||((z113.2.2.length:Int) != 0))||((z127.length:Int) != 1))||((gt z127 0).to_ != z178))) then
 (Option.bind (fR z113.1 3) λz183=>(bif (!((z183.length:Int) != 1)) then
 (Option.bind (aL z113.1 (-1)) λz198=>(bif ((z198.length:Int) != 1) then
 (some false)
 else
 (chk (decide (0<z127.length)) (Option.bind (cZ 3) λz214=>(Option.bind (cZ 1) λz216=>(chk (i64b z214.site) (chk (i64b z214.node) (chk (i64b z216.site) (chk (i64b z216.node) (Option.bind (eX z113.1 (⟨2,(⟨z214.site,z214.node⟩:Adr),(⟨z216.site,z216.node⟩:Adr),0,0,0,0,ByteArray.empty,(gt z127 0).recs,[],[],[],[]⟩:ae) z113.2.1) λz222=>(Option.bind (fR z222.1 3) λz236=>(some ((z236.length:Int)==0)))))))))))))
 else
 (some false)))
 else
 (some false)))))))))))))))))))
def fG(f15:Int→Option Int)(i16:Nat)(ei16:Ver):Int→Option Int:=λn_13=>
 (f15 (w64 ((w64 ((w64 (n_13+128))+(((ei16.val).size:Nat):Int)))+(w64 (32*(((ei16.past).length:Nat):Int))))))
def fD(f3:Int→Option Int)(i4:Nat)(ei4:Rec):Int→Option Int:=λn_1=>
 (forI (fG) (λn_13=>
 (f3 n_13)) 0 (ei4.vers) (w64 ((w64 (n_1+64))+(((ei4.key).size:Nat):Int))))
def fi(list:List Rec):Option Int:=
 (forI (fD) (λn_1=>
 (some n_1)) 0 list 0)
def eH(d:Dot):Option Bool:=
 (some ((((decide (1≤d.s))&&(decide (d.s≤16)))&&(decide (1≤d.n)))&&(decide (d.n≤4611686018427387904))))
def iM(l:List Span)(f2:Unit→Option Bool)(i3:Nat)(ei3:Span):Unit→Option Bool:=λ_=>
 (Option.bind (eH (⟨ei3.s,ei3.f⟩:Dot)) λz9=>(Option.bind (bM (!(!z9)) (eH (⟨ei3.s,ei3.t⟩:Dot))) λz23=>(bif (((!z9)||(!z23))||(decide (ei3.t<ei3.f))) then
 (some false)
 else
 (chk (imp (decide (0<(i3:Int))) (inb (w64 ((i3:Int) - 1)) l.length)) (bif ((decide (0<(i3:Int)))&&((decide (ei3.s<(gt l ((w64 ((i3:Int) - 1)).toNat)).s))||((ei3.s==(gt l ((w64 ((i3:Int) - 1)).toNat)).s)&&(decide ((w64 (ei3.f - 1))≤(gt l ((w64 ((i3:Int) - 1)).toNat)).t))))) then
 (some false)
 else
 (f2 ()))))))
def ff(l:List Span):Option Bool:=
 (bif (decide (1024<(l.length:Int))) then
 (some false)
 else
 (forI (iM l) (λ_=>
 (some true)) 0 l ()))
def eA(f3:Int→Option Int)(n_10:Int):Option Int:=
 (f3 n_10)
def gA(s_:Int)(f3:Int→Option Int)(i4:Nat)(ei4:Span):Int→Option Int:=λn_1=>
 (bif ((ei4.s==s_)&&(decide (n_1<ei4.t))) then
 (eA f3 (ei4.t))
 else
 (eA f3 n_1))
def gq(l:List Span)(s_:Int):Option Int:=
 (forI (gA s_) (λn_1=>
 (some n_1)) 0 l 0)
def dE(v_:Ver):Option Bool:=
 (Option.bind (eH v_.dot) λz2=>(Option.bind (bM (!(!z2)) (ff v_.past)) λz7=>(Option.bind (bM (!((!z2)||(!z7))) (gq v_.past v_.dot.s)) λz16=>(bif (((!z2)||(!z7))||(decide (v_.dot.n≤z16))) then
 (some false)
 else
 (bif v_.gone then
 (some (v_.val==ByteArray.empty))
 else
 (some (decide ((v_.val.size:Int)≤256))))))))
def jJ(d:Dot)(f2:Unit→Option Bool)(i3:Nat)(ei3:Span):Unit→Option Bool:=λ_=>
 (bif (((ei3.s==d.s)&&(decide (ei3.f≤d.n)))&&(decide (d.n≤ei3.t))) then
 (some true)
 else
 (f2 ()))
def gj(l:List Span)(d:Dot):Option Bool:=
 (forI (jJ d) (λ_=>
 (some false)) 0 l ())
def ix(d:Dot)(f2:Unit→Option Bool)(i3:Nat)(ei3:Ver):Unit→Option Bool:=λ_=>
 (Option.bind (gj (ei3.past) d) λz12=>(bif z12 then
 (some true)
 else
 (f2 ())))
def bz(l:List Ver)(d:Dot):Option Bool:=
 (forI (ix d) (λ_=>
 (some false)) 0 l ())
def fI(a:Dot)(b:Dot):Option Bool:=
 (bif (a.s != b.s) then
 (some (decide (a.s<b.s)))
 else
 (some (decide (a.n<b.n))))
def iJ(l:List Ver)(f2:Unit→Option Bool)(i3:Nat)(ei3:Ver):Unit→Option Bool:=λ_=>
 (Option.bind (dE ei3) λz12=>(Option.bind (bM (!(!z12)) (bz l (ei3.dot))) λz21=>(bif ((!z12)||z21) then
 (some false)
 else
 (chk (imp (decide (0<(i3:Int))) (inb (w64 ((i3:Int) - 1)) l.length)) (Option.bind (bM (decide (0<(i3:Int))) (fI ((gt l ((w64 ((i3:Int) - 1)).toNat)).dot) (ei3.dot))) λz40=>(bif ((decide (0<(i3:Int)))&&(!z40)) then
 (some false)
 else
 (f2 ())))))))
def dk(l:List Ver):Option Bool:=
 (bif (decide (512<(l.length:Int))) then
 (some false)
 else
 (forI (iJ l) (λ_=>
 (some true)) 0 l ()))
def bE(r_:Rec):Option Bool:=
 (Option.bind (bM ((r_.key != ByteArray.empty)&&(decide ((r_.key.size:Int)≤32))) (dk r_.vers)) λz9=>(some (((r_.key != ByteArray.empty)&&(decide ((r_.key.size:Int)≤32)))&&z9)))
def dU(b:List Span)(f2:Unit→Option Bool)(i3:Nat)(ei3:Span):Unit→Option Bool:=λ_=>
 (chk (decide (i3<b.length)) (bif (ei3 != (gt b i3)) then
 (some false)
 else
 (f2 ())))
def cY(a:List Span)(b:List Span):Option Bool:=
 (bif ((a.length:Int) != (b.length:Int)) then
 (some false)
 else
 (forI (dU b) (λ_=>
 (some true)) 0 a ()))
def b7(a:Ver)(b:Ver):Option Bool:=
 (Option.bind (bM (((a.dot==b.dot)&&(a.gone==b.gone))&&(a.val==b.val)) (cY a.past b.past)) λz18=>(some ((((a.dot==b.dot)&&(a.gone==b.gone))&&(a.val==b.val))&&z18)))
def fF(a:List Span)(i2:Nat)(f9:Bool→Option Bool)(i10:Nat)(ei10:Span):Bool→Option Bool:=λin_8=>
 (f9 (in_8||((((gt a i2).s==ei10.s)&&(decide (ei10.f≤(gt a i2).f)))&&(decide ((gt a i2).t≤ei10.t)))))
def fE(a:List Span)(b:List Span)(f1:Unit→Option Bool)(i2:Nat)(ei2:Span):Unit→Option Bool:=λ_=>
 (forI (fF a i2) (λin_8=>
 (bif (!in_8) then
 (some false)
 else
 (f1 ()))) 0 b false)
def dq(a:List Span)(b:List Span):Option Bool:=
 (forI (fE a b) (λ_=>
 (some true)) 0 a ())
def eG(a:List Ver)(b:List Ver)(i2:Nat)(f8:Unit→Option Bool)(i9:Nat)(ei9:Ver):Unit→Option Bool:=λ_=>
 (Option.bind (bM ((gt a i2).dot==ei9.dot) (b7 (gt a i2) ei9)) λz30=>(bif (((gt a i2).dot==ei9.dot)&&(!z30)) then
 (some false)
 else
 (chk (decide (i2+1≤a.length)) (Option.bind (bz (List.drop i2 (List.take (i2+1) a)) (ei9.dot)) λz35=>(chk (imp z35 (decide (i9+1≤b.length))) (Option.bind (bM z35 (bz (List.drop i9 (List.take (i9+1) b)) ((gt a i2).dot))) λz49=>(Option.bind (bM (z35&&(!z49)) (dq (ei9.past) ((gt a i2).past))) λz63=>(bif (z35&&(z49||(!z63))) then
 (some false)
 else
 (f8 ())))))))))
def eN(a:List Ver)(b:List Ver)(f1:Unit→Option Bool)(i2:Nat)(ei2:Ver):Unit→Option Bool:=λ_=>
 (forI (eG a b i2) (λ_=>
 (f1 ())) 0 b ())
def cO(a:List Ver)(b:List Ver):Option Bool:=
 (forI (eN a b) (λ_=>
 (some true)) 0 a ())
def aZ(list:List Rec)(i7:Nat)(f21:Unit→Option Bool)(i22:Nat)(ei22:Rec):Unit→Option Bool:=λ_=>
 (Option.bind (bM ((gt list i7).key==ei22.key) (cO ((gt list i7).vers) (ei22.vers))) λz45=>(bif (((gt list i7).key==ei22.key)&&(!z45)) then
 (some false)
 else
 (f21 ())))
def aY(list:List Rec)(f6:Int→Option Bool)(i7:Nat)(ei7:Rec):Int→Option Bool:=λn_4=>
 (Option.bind (bE ei7) λz16=>(bif ((!z16)||(decide (512<(w64 (n_4+(((ei7.vers).length:Nat):Int)))))) then
 (some false)
 else
 (forI (aZ list i7) (λ_=>
 (f6 (w64 (n_4+(((ei7.vers).length:Nat):Int))))) 0 list ())))
def cG(list:List Rec):Option Bool:=
 (Option.bind (fi list) λz1=>(bif (decide (65536<z1)) then
 (some false)
 else
 (forI (aY list) (λn_4=>
 (some true)) 0 list 0)))
def cp(f11:List Ver→Option Rec)(i12:Nat)(ei12:Ver):List Ver→Option Rec:=λx6=>
 (chk (decide (0+(ei12.past).length≤lim)) (chk (decide (x6.length+1≤lim)) (f11 (x6++[ei12]))))
def gw(r_:Rec):Option Rec:=
 (forI (cp) (λx6=>
 (some (⟨r_.key,x6⟩:Rec))) 0 r_.vers [])
def fY(b:List Ver)(f2:Unit→Option Bool)(i3:Nat)(ei3:Ver):Unit→Option Bool:=λ_=>
 (chk (decide (i3<b.length)) (Option.bind (b7 ei3 (gt b i3)) λz16=>(bif (!z16) then
 (some false)
 else
 (f2 ()))))
def fO(a:List Ver)(b:List Ver):Option Bool:=
 (bif ((a.length:Int) != (b.length:Int)) then
 (some false)
 else
 (forI (fY b) (λ_=>
 (some true)) 0 a ()))
def ej(b:List Rec)(f2:Unit→Option Bool)(i3:Nat)(ei3:Rec):Unit→Option Bool:=λ_=>
 (chk (decide (i3<b.length)) (Option.bind (bM (!(ei3.key != (gt b i3).key)) (fO (ei3.vers) ((gt b i3).vers))) λz27=>(bif ((ei3.key != (gt b i3).key)||(!z27)) then
 (some false)
 else
 (f2 ()))))
def aQ(a:List Rec)(b:List Rec):Option Bool:=
 (bif ((a.length:Int) != (b.length:Int)) then
 (some false)
 else
 (forI (ej b) (λ_=>
 (some true)) 0 a ()))
def aP(l:List Rec):Option Unit:=
 (some ())
def b9(f48:List Rec→Option Bool)(i49:Nat)(ei49:Rec):List Rec→Option Bool:=λmine_43=>
 (Option.bind (gw ei49) λz58=>(chk (decide (mine_43.length+1≤lim)) (f48 (mine_43++[z58]))))
def fo(list:List Rec):Option Bool:=
 (Option.bind (fk) λz1=>(Option.bind (bM (!(!z1)) (cG list)) λz5=>(bif ((!z1)||(!z5)) then
 (Option.bind (fk) λz9=>(some z9))
 else
 (Option.bind (kd 16777216) λz11=>(Option.bind (jr z11 (⟨1,2⟩:Adr) 500 3) λz23=>(bif ((Option.isNone z23.2.1)||(z23.2.2 != 0)) then
 (some false)
 else
 (Option.bind z23.2.1 λz38=>(forI (b9) (λmine_43=>
 (Option.bind (fA (⟨1,(⟨1,0⟩:Adr),(⟨1,2⟩:Adr),5,0,0,0,ByteArray.empty,mine_43,[],[],[],[]⟩:ae)) λz94=>(chk z94 (chk (!((⟨1,2⟩:Adr) != (⟨z38.self_site,z38.self_node⟩:Adr))) (chk (!(1 != z38.self_site)) (chk ((mget 1 z38.does)==some 23) (Option.bind (j3 z38.own mine_43 z23.1) λz126=>(bif (z126.2.2 != 0) then
 (chk (decide (0+1≤lim)) (Option.bind (aL (⟨z38.life,z38.self_site,z38.self_node,z126.1,z38.hints,z38.does⟩:aa) (-1)) λz152=>(Option.bind (bM (!((([(⟨3,(⟨z38.self_site,z38.self_node⟩:Adr),(⟨1,0⟩:Adr),5,0,0,z126.2.2,ByteArray.empty,[],[],[],[],[]⟩:ae)].length:Nat):Int) != 1)) (aQ mine_43 list)) λz168=>(bif (((([(⟨3,(⟨z38.self_site,z38.self_node⟩:Adr),(⟨1,0⟩:Adr),5,0,0,z126.2.2,ByteArray.empty,[],[],[],[],[]⟩:ae)].length:Nat):Int) != 1)||(!z168)) then
 (some false)
 else
 (Option.bind (aP mine_43) λz172=>(chk (decide (0 < [(⟨3,(⟨z38.self_site,z38.self_node⟩:Adr),(⟨1,0⟩:Adr),5,0,0,z126.2.2,ByteArray.empty,[],[],[],[],[]⟩:ae)].length)) (Option.bind (aP ((gt [(⟨3,(⟨z38.self_site,z38.self_node⟩:Adr),(⟨1,0⟩:Adr),5,0,0,z126.2.2,ByteArray.empty,[],[],[],[],[]⟩:ae)] 0).recs)) λz191=>(Option.bind (aL (⟨z38.life,z38.self_site,z38.self_node,z126.1,z38.hints,z38.does⟩:aa) (-1)) λz198=>(Option.bind (aP z198) λz211=>(Option.bind (aL (⟨z38.life,z38.self_site,z38.self_node,z126.1,z38.hints,z38.does⟩:aa) (-1)) λz218=>(Option.bind (aQ z218 z152) λz231=>(some z231))))))))))))
 else
 (Option.bind (iR mine_43) λz237=>(chk (decide (0+1≤lim)) (Option.bind (aL (⟨z38.life,z38.self_site,z38.self_node,z126.1,z38.hints,z38.does⟩:aa) (-1)) λz264=>(Option.bind (bM (!((([(⟨2,(⟨(⟨z38.life,z38.self_site,z38.self_node,z126.1,z38.hints,z38.does⟩:aa).self_site,(⟨z38.life,z38.self_site,z38.self_node,z126.1,z38.hints,z38.does⟩:aa).self_node⟩:Adr),(⟨1,0⟩:Adr),5,(⟨z38.life,z38.self_site,z38.self_node,z126.1,z38.hints,z38.does⟩:aa).life,0,0,ByteArray.empty,z237,[],[],[],[]⟩:ae)].length:Nat):Int) != 1)) (aQ mine_43 list)) λz280=>(bif (((([(⟨2,(⟨(⟨z38.life,z38.self_site,z38.self_node,z126.1,z38.hints,z38.does⟩:aa).self_site,(⟨z38.life,z38.self_site,z38.self_node,z126.1,z38.hints,z38.does⟩:aa).self_node⟩:Adr),(⟨1,0⟩:Adr),5,(⟨z38.life,z38.self_site,z38.self_node,z126.1,z38.hints,z38.does⟩:aa).life,0,0,ByteArray.empty,z237,[],[],[],[]⟩:ae)].length:Nat):Int) != 1)||(!z280)) then
 (some false)
 else
 (Option.bind (aP mine_43) λz284=>(chk (decide (0 < [(⟨2,(⟨(⟨z38.life,z38.self_site,z38.self_node,z126.1,z38.hints,z38.does⟩:aa).self_site,(⟨z38.life,z38.self_site,z38.self_node,z126.1,z38.hints,z38.does⟩:aa).self_node⟩:Adr),(⟨1,0⟩:Adr),5,(⟨z38.life,z38.self_site,z38.self_node,z126.1,z38.hints,z38.does⟩:aa).life,0,0,ByteArray.empty,z237,[],[],[],[]⟩:ae)].length)) (Option.bind (aP ((gt [(⟨2,(⟨(⟨z38.life,z38.self_site,z38.self_node,z126.1,z38.hints,z38.does⟩:aa).self_site,(⟨z38.life,z38.self_site,z38.self_node,z126.1,z38.hints,z38.does⟩:aa).self_node⟩:Adr),(⟨1,0⟩:Adr),5,(⟨z38.life,z38.self_site,z38.self_node,z126.1,z38.hints,z38.does⟩:aa).life,0,0,ByteArray.empty,z237,[],[],[],[]⟩:ae)] 0).recs)) λz303=>(Option.bind (aL (⟨z38.life,z38.self_site,z38.self_node,z126.1,z38.hints,z38.does⟩:aa) (-1)) λz310=>(Option.bind (aP z310) λz323=>(Option.bind (aL (⟨z38.life,z38.self_site,z38.self_node,z126.1,z38.hints,z38.does⟩:aa) (-1)) λz330=>(Option.bind (aQ z330 z264) λz343=>(some z343))))))))))))))))))))) 0 list []))))))))
end Fw
end Go.Proofs.YtgaplodcdhhefaaGreat
