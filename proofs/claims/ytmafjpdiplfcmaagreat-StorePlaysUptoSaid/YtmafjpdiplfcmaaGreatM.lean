/- What the functions compute, as Lean functions (printed by a program). No condition. -/
import Derived.Test.YtmafjpdiplfcmaaGreatE
import Derived.Test.YtmafjpdiplfcmaaGreatK14
import Derived.Test.YtmafjpdiplfcmaaGreatK15
import Derived.Test.YtmafjpdiplfcmaaGreatK16
import Derived.Test.YtmafjpdiplfcmaaGreatK17
import Derived.Test.YtmafjpdiplfcmaaGreatK18
import Derived.Test.YtmafjpdiplfcmaaGreatK19
import Derived.Test.YtmafjpdiplfcmaaGreatK23
import Derived.Test.YtmafjpdiplfcmaaGreatK24
import Derived.Test.YtmafjpdiplfcmaaGreatK25
import Derived.Test.YtmafjpdiplfcmaaGreatK26
import Derived.Test.YtmafjpdiplfcmaaGreatK27
import Derived.Test.YtmafjpdiplfcmaaGreatK29
import Derived.Test.YtmafjpdiplfcmaaGreatK37
namespace Go.Proofs.YtmafjpdiplfcmaaGreat
namespace Fw
set_option linter.unusedVariables false
set_option linter.unusedSimpArgs false
set_option linter.unusedSectionVars false
open Go.RowKit
structure a8 where
  room:Int
  safe_:(List (ByteArray×(List UInt8)))
  seen:(List (ByteArray×(List UInt8)))
  loose:(List aE)
  deriving Inhabited,DecidableEq
abbrev ax:=(List (List UInt8)×Int)
abbrev ao:=(List ByteArray)
structure ai where
  place_name:ByteArray
  place_gen:Int
  size:Int
  last:Int
  tail:Int
  count:Int
  bytes:Int
  deriving Inhabited,DecidableEq
structure ae where
  log:ai
  keys:(List (ByteArray×(List UInt8)))
  deriving Inhabited,DecidableEq
structure aa where
  b:(List UInt8)
  at_:Int
  deriving Inhabited,DecidableEq
structure aj where
  b:(List UInt8)
  deriving Inhabited,DecidableEq
structure a7 where
  room:Int
  safe_:(List ab)
  todo:(List ak)
  deriving Inhabited,DecidableEq
structure af where
  name:ByteArray
  size:Int
  gen:Int
  parts:(List Int)
  records:Int
  deriving Inhabited,DecidableEq
structure ah where
  log:af
  list:(List Rec)
  deriving Inhabited,DecidableEq
structure ac where
  b:(List UInt8)
  at_:Int
  bad:Bool
  deriving Inhabited,DecidableEq
def nN(room:Int):Option a8:=
 (some (⟨(min (max room 0) 1073741824),([]:List (ByteArray×(List UInt8))),([]:List (ByteArray×(List UInt8))),[]⟩:a8))
def eo(s_:ByteArray)(c_:Int):Option Int:=
 (some (ixb s_ c_))
def bE(s_:ByteArray):Option Int:=
 (bif ((⟨#[46]⟩:ByteArray)==s_) then
 (some 0)
 else
 (Option.bind (eo s_ 46) λz2=>(some z2)))
def kW(s_:ByteArray):Option Int:=
 (Option.bind (bE s_) λz1=>(some z1))
def j5(s_:ByteArray):Option Bool:=
 (Option.bind (kW s_) λz1=>(some (decide (0≤z1))))
def cq(p__1:ByteArray)(p__2:Int):Option ByteArray:=
 (some (p__1++(⟨#[46,109]⟩:ByteArray)))
def dh(s_:List UInt8):Option (List UInt8):=
 (nilc s_.isEmpty (
 (some []))
 ((chk (decide (0+s_.length≤lim)) (some (([]:List UInt8)++s_)))))
def eR(d:a8)(name:ByteArray):Option ((List UInt8)×Bool):=
 (Option.bind (dh ((mget name d.seen).getD [])) λz9=>(some (z9,((mget name d.seen).isSome))))
def nu(e_6:Int):Option (Int×Int×Int):=
 (some (0,0,e_6))
def mG(b:List UInt8)(at_:Int)(n_9:Int)(f10:Int→Option (Int×Int×Int))(i11:Nat)(x_17:Bool):Option (Int×Int×Int):=
 (bif x_17 then
 (nu 2)
 else
 (bif (decide ((((gt (List.drop at_.toNat b) i11).toNat:Nat):Int)<128)) then
 (chk (decide (0≤(w64 (7*(i11:Int))))) (some ((w64 (ior .u64 n_9 (ishl .u64 (wu64 (((gt (List.drop at_.toNat b) i11).toNat:Nat):Int)) (w64 (7*(i11:Int)))))),(w64 ((w64 (at_+(i11:Int)))+1)),0)))
 else
 (chk (decide (0≤(w64 (7*(i11:Int))))) (f10 (ior .u64 n_9 (ishl .u64 (wu64 (iand .u8 (((gt (List.drop at_.toNat b) i11).toNat:Nat):Int) 127)) (w64 (7*(i11:Int)))))))))
def mv(b:List UInt8)(at_:Int)(f10:Int→Option (Int×Int×Int))(i11:Nat)(ei11:UInt8):Int→Option (Int×Int×Int):=λn_9=>
 (bif (((i11:Int)==8)&&(decide (127<(ei11.toNat:Int)))) then
 (mG b at_ n_9 f10 i11 (((i11:Int)==8)&&(decide (127<(ei11.toNat:Int)))))
 else
 (mG b at_ n_9 f10 i11 ((decide (0<(i11:Int)))&&((ei11.toNat:Int)==0))))
def gX(b:List UInt8)(at_:Int):Option (Int×Int×Int):=
 (bif ((decide (at_<0))||(decide ((b.length:Int)<at_))) then
 (some (0,0,1))
 else
 (chk (inle at_ b.length) (forI (mv b at_) (λn_9=>
 (nu 4)) 0 (List.drop at_.toNat b) 0)))
def kX(f21:Int→Option Int)(i22:Nat):Int→Option Int:=λr_20=>
 (f21 (ixor .u32 (ishr .u32 r_20 1) (iand .u32 3988292384 (wu32 (0 - (iand .u32 r_20 1))))))
def l0(f13:Int→Option Int)(i14:Nat)(ei14:UInt8):Int→Option Int:=λr_12=>
 (forU (kX) (λr_20=>
 (f13 r_20)) 8 0 (ixor .u32 r_12 (wu32 (ei14.toNat:Int))))
def ne(f2:Int→Option Int)(i3:Nat)(ei3:(List UInt8)):Int→Option Int:=λr_1=>
 (forI (l0) (λr_12=>
 (f2 r_12)) 0 ei3 r_1)
def mI(parts:List (List UInt8)):Option Int:=
 (forI (ne) (λr_1=>
 (some (icom .u32 r_1))) 0 parts 4294967295)
def na(b:List UInt8)(z1:Int×Int×Int)(z15:Int)(f17:Unit→Option ((List UInt8)×Int×Int))(i18:Nat):Unit→Option ((List UInt8)×Int×Int):=λ_=>
 (chk (inb (w64 (z1.2.1+(i18:Int))) b.length) (chk (decide (0≤(w64 (8*(i18:Int))))) (bif ((((gt b ((w64 (z1.2.1+(i18:Int))).toNat)).toNat:Nat):Int) != (wu8 (ishr .u32 z15 (w64 (8*(i18:Int)))))) then
 (some ([],0,20))
 else
 (f17 ()))))
def ny(b:List UInt8)(at_:Int):Option ((List UInt8)×Int×Int):=
 (Option.bind (gX b at_) λz1=>(bif (z1.2.2 != 0) then
 (chk (i64b z1.2.2) (some ([],0,z1.2.2)))
 else
 (bif (decide (1048576<z1.1)) then
 (some ([],0,3))
 else
 (bif (decide ((w64 ((b.length:Int) - z1.2.1))<(w64 (z1.1+4)))) then
 (some ([],0,4))
 else
 (chk (inle (w64 ((w64 (z1.2.1+4))+z1.1)) b.length) (chk (decide (0≤(w64 (z1.2.1+4)))) (chk (decide ((w64 (z1.2.1+4)).toNat≤(w64 ((w64 (z1.2.1+4))+z1.1)).toNat)) (chk (inle z1.2.1 b.length) (chk (decide (0≤at_)) (chk (decide (at_.toNat≤z1.2.1.toNat)) (Option.bind (mI [(List.drop at_.toNat (List.take z1.2.1.toNat b)),(List.drop ((w64 (z1.2.1+4)).toNat) (List.take ((w64 ((w64 (z1.2.1+4))+z1.1)).toNat) b))]) λz15=>(forU (na b z1 z15) (λ_=>
 (chk (decide (0+(List.drop ((w64 (z1.2.1+4)).toNat) (List.take ((w64 ((w64 (z1.2.1+4))+z1.1)).toNat) b)).length≤lim)) (some ((([]:List UInt8)++(List.drop ((w64 (z1.2.1+4)).toNat) (List.take ((w64 ((w64 (z1.2.1+4))+z1.1)).toNat) b))),(w64 ((w64 (z1.2.1+4))+z1.1)),0)))) 4 0 ()))))))))))))
def eB(Y:ax→List UInt8→Int→Option ax)(b0v:List UInt8)(f10:Int×Int×ax→Option (ax×Int)):Int×Int×ax→Option (ax×Int):=λ(at_3,x5,o7)=>
 (bif (decide (at_3<(b0v.length:Int))) then
 (Option.bind (ny b0v at_3) λz15=>(bif (!(z15.2.2 != 0)) then
 (Option.bind (Y o7 z15.1 z15.2.1) λz36=>(f10 (z15.2.1,z15.2.2,z36)))
 else
 (some (o7,z15.2.2))))
 else
 (some (o7,x5)))
def m8(Y:ax→List UInt8→Int→Option ax)(sY:ax)(b0v:List UInt8)(b1v:Int):Option (ax×Int):=
 (loopN (eB Y b0v) FU (0,b1v,sY))
def ix(s:ax)(b:List UInt8)(n:Int):Option ax:=chk (decide (s.1.length+1≤lim)) (some (s.1++[b],n))
def mZ(b:List UInt8):Option (List (List UInt8)×Int×Int):=Option.bind (m8 ix ([],0) b 0) λz=>some (z.1.1,z.1.2,z.2)
def iS(f34:Int→Option (Int×Int×Int))(i35:Nat)(ei35:(List UInt8)):Int→Option (Int×Int×Int):=λgen_33=>
 (Option.bind (gX ei35 0) λz44=>(bif ((((z44.2.2 != 0)||(z44.2.1 != (ei35.length:Int)))||(decide (z44.1<1)))||(decide (999999<z44.1))) then
 (some (0,0,2))
 else
 (f34 z44.1)))
def m_seglog_place_holds(p__1:ByteArray)(p__2:Int)(dk0:a8):Option (Int×Int×Int):=
 (Option.bind (cq p__1 p__2) λz3=>(chk (decide (z3.size≤lim)) (Option.bind (eR dk0 z3) λz6=>(Option.bind (mZ z6.1) λz21=>(forI (iS) (λgen_33=>
 (chk (i64b gen_33) (some (gen_33,z21.2.1,0)))) 0 z21.1 0)))))
def hZ(d:a8):Option Int:=
 (some (d.loose.length:Int))
def qc(f1:Unit→Option Bool)(i2:Nat)(ei2:ByteArray):Unit→Option Bool:=λ_=>
 (bif ((decide ((ei2.size:Int)<1))||(decide (16<(ei2.size:Int)))) then
 (some false)
 else
 (f1 ()))
def lN(names:List ByteArray):Option Bool:=
 (forI (qc) (λ_=>
 (some true)) 0 names ())
def ip(d:a8)(name:ByteArray):Option Int:=
 (Option.bind (lN [name]) λz3=>(bif (!z3) then
 (some 70)
 else
 (bif (!((mget name d.seen).isSome)) then
 (some 71)
 else
 (some 0))))
def iY(s_:List UInt8):Option (List UInt8):=
 (some s_)
def nw(f_:List (ByteArray×(List UInt8)))(b0:ByteArray)(b1:(List UInt8)):Option (List (ByteArray×(List UInt8))):=
 (Option.bind (iY ((mget b0 f_).getD [])) λz9=>(chk (decide (((mget b0 f_).getD []).length+b1.length≤lim)) (some (mput b0 (((mget b0 f_).getD [])++b1) f_))))
def jP(f_:List (ByteArray×(List UInt8)))(b0:ByteArray)(b1:Int):Option (List (ByteArray×(List UInt8))):=
 (chk (inle b1 (((mget b0 f_).getD []).length)) (some (mput b0 (List.take b1.toNat ((mget b0 f_).getD [])) f_)))
def mJ(f_:List (ByteArray×(List UInt8)))(b0:ByteArray):Option (List (ByteArray×(List UInt8))):=
 (some (mdel b0 f_))
def cS(x:aq)(f_:List (ByteArray×(List UInt8))):Option (List (ByteArray×(List UInt8))):=
  match x with
  | .disk_add_1 a0 a1=>nw f_ a0 a1
  | .disk_Disk_Cut_1 a0 a1=>jP f_ a0 a1
  | .disk_Disk_Remove_1 a0=>mJ f_ a0
def gi(d:a8)(c_:aE):Option (a8×Int):=
 (Option.bind (cS c_.do_ d.seen) λz4=>(chk (decide (d.loose.length+1≤lim)) (some ((⟨d.room,d.safe_,z4,(d.loose++[c_])⟩:a8),0))))
def kY(d:a8)(name:ByteArray)(n:Int):Option (a8×Int):=
 (Option.bind (ip d name) λz3=>(bif (z3 != 0) then
 (chk (i64b z3) (some (d,z3)))
 else
 (bif ((decide (n<0))||(decide (((((mget name d.seen).getD []).length:Nat):Int)<n))) then
 (some (d,1))
 else
 (Option.bind (gi d (⟨(aq.disk_Disk_Cut_1 name n),ByteArray.empty,[]⟩:aE)) λz36=>(some (z36.1,z36.2))))))
def ei(p__1:ByteArray)(p__2:Int)(f_:ByteArray)(n:Int)(dk0:a8):Option a8:=
 (Option.bind (eR dk0 f_) λz2=>(bif (decide (n<(z2.1.length:Int))) then
 (Option.bind (kY dk0 f_ n) λz13=>(some z13.1))
 else
 (some dk0)))
def hQ(d:a8):Option (List ByteArray):=
 (chk (decide (d.seen.length≤lim)) (some (dg d.seen)))
def ee(s_:ByteArray)(prefix_:ByteArray):Option Bool:=
 (chk (imp (decide ((prefix_.size:Int)≤(s_.size:Int))) (decide (prefix_.size≤s_.size))) (some ((decide ((prefix_.size:Int)≤(s_.size:Int)))&&((s_.extract 0 prefix_.size)==prefix_))))
def ej(s_:ByteArray)(prefix_:ByteArray):Option (ByteArray×Bool):=
 (Option.bind (ee s_ prefix_) λz1=>(bif (!z1) then
 (some (s_,false))
 else
 (chk (decide (prefix_.size≤s_.size)) (some ((s_.extract prefix_.size s_.size),true)))))
def iQ(s_:ByteArray)(prefix_:ByteArray):Option (ByteArray×Bool):=
 (Option.bind (ej s_ prefix_) λz1=>(some (z1.1,z1.2)))
def gx(s_:ByteArray):Option (ByteArray×ByteArray×Bool):=
 (Option.bind (bE s_) λz1=>(bif (decide (0≤z1)) then
 (chk (inle z1 s_.size) (chk (inle (w64 (z1+1)) s_.size) (some ((s_.extract 0 z1.toNat),(s_.extract ((w64 (z1+1)).toNat) s_.size),true))))
 else
 (some (s_,ByteArray.empty,false))))
def mB(s_:ByteArray):Option (ByteArray×ByteArray×Bool):=
 (Option.bind (gx s_) λz1=>(some (z1.1,z1.2.1,z1.2.2)))
def dT(f22:Int→Option (Int×Int))(i23:Nat)(ei23:UInt8):Int→Option (Int×Int):=λn_20=>
 (bif ((decide ((ei23.toNat:Int)<48))||(decide (57<(ei23.toNat:Int)))) then
 (some (0,2))
 else
 (f22 (wu64 ((wu64 (10*n_20))+(wu64 (wu8 ((ei23.toNat:Int) - 48)))))))
def jm(s_:ByteArray):Option (Int×Int):=
 (chk (imp ((!(s_==ByteArray.empty))&&(decide (1<(s_.size:Int)))) (decide (0<s_.size))) (bif (((s_==ByteArray.empty)||((decide (1<(s_.size:Int)))&&((((gt s_.data.toList 0).toNat:Nat):Int)==48)))||(decide (19<(s_.size:Int)))) then
 (some (0,2))
 else
 (forI (dT) (λn_20=>
 (bif (decide (9223372036854775808≤n_20)) then
 (some (0,2))
 else
 (some ((w64 n_20),0)))) 0 (s_.data.toList) 0)))
def bW(Y:ao→ByteArray→Int→Int→Option ao)(b0v1:ByteArray)(f16:ao→Option ao)(i17:Nat)(ei17:ByteArray):ao→Option ao:=λo13=>
 (chk (decide ((b0v1++(⟨#[46]⟩:ByteArray)).size≤lim)) (Option.bind (iQ ei17 (b0v1++(⟨#[46]⟩:ByteArray))) λz24=>(chk (decide (z24.1.size≤lim)) (Option.bind (mB z24.1) λz27=>(chk (decide (z27.1.size≤lim)) (Option.bind (jm z27.1) λz30=>(chk (decide (z27.2.1.size≤lim)) (Option.bind (jm z27.2.1) λz33=>(bif ((((((z24.2&&z27.2.2)&&(z30.2==0))&&(z33.2==0))&&(decide (z30.1≤999999)))&&(decide (1≤z33.1)))&&(decide (z33.1≤999999))) then
 (chk (i64b z30.1) (chk (i64b z33.1) (Option.bind (Y o13 ei17 z30.1 z33.1) λz54=>(f16 z54))))
 else
 (f16 o13))))))))))
def fR(Y:ao→ByteArray→Int→Int→Option ao)(sY:ao)(b0v0:a8)(b0v1:ByteArray)(b0v2:Int):Option ao:=
 (Option.bind (hQ b0v0) λz1=>(forI (bW Y b0v1) (λo13=>
 (some o13)) 0 z1 sY))
def gy(d:a8)(name:ByteArray):Option (a8×Int):=
 (Option.bind (ip d name) λz2=>(bif (z2 != 0) then
 (chk (i64b z2) (some (d,z2)))
 else
 (Option.bind (gi d (⟨(aq.disk_Disk_Remove_1 name),ByteArray.empty,[]⟩:aE)) λz11=>(some (z11.1,z11.2)))))
def dF(pred:Int→Int→Option Bool)(s:ao)(f:ByteArray)(g n:Int):Option ao:=Option.bind (pred g n) λq=>bif q then chk (decide (s.length+1≤lim)) (some (s++[f])) else some s
def gz(k:a8→Option a8)(i:Nat)(f:ByteArray)(d:a8):Option a8:=Option.bind (gy d f) λz=>k z.1
def aD(d:a8)(name:ByteArray)(gen:Int)(pred:Int→Int→Option Bool):Option a8:=Option.bind (fR (dF pred) [] d name gen) λl=>forI gz some 0 l d
def gW(g_:Int)(a1:Int)(b0v:Int):Option Bool:=
 (some (g_ != b0v))
def ju(at_24:Int)(x26:List UInt8):Option ByteArray:=
 (chk (inle at_24 20) (some (⟨(List.drop at_24.toNat x26).toArray⟩:ByteArray)))
def dm(n:Int)(f14:Int×Int×(List UInt8)→Option ByteArray):Int×Int×(List UInt8)→Option ByteArray:=λ(at_6,u_8,x10)=>
 (bif ((at_6==20)||(decide (0<u_8))) then
 (chk (inb (w64 (at_6 - 1)) 20) (f14 ((w64 (at_6 - 1)),(wu64 (u_8.tdiv 10)),(List.set x10 ((w64 (at_6 - 1)).toNat) (b8 (wu8 (wu64 (48+(u_8.tmod 10)))))))))
 else
 (bif (decide (n<0)) then
 (chk (inb (w64 (at_6 - 1)) 20) (ju (w64 (at_6 - 1)) (List.set x10 ((w64 (at_6 - 1)).toNat) (b8 45))))
 else
 (ju at_6 x10)))
def kV(n:Int)(u_3:Int):Option ByteArray:=
 (loopN (dm n) FU (20,u_3,(List.replicate 20 (b8 0))))
def lL(n:Int):Option ByteArray:=
 (bif (decide (n<0)) then
 (kV n (wu64 (0 - (wu64 n))))
 else
 (kV n (wu64 n)))
def eA(p__1:ByteArray)(p__2:Int)(gen:Int)(part:Int):Option ByteArray:=
 (Option.bind (lL gen) λz2=>(chk (decide ((p__1++(⟨#[46]⟩:ByteArray)).size≤lim)) (chk (decide (z2.size≤lim)) (chk (decide (((p__1++(⟨#[46]⟩:ByteArray))++z2).size≤lim)) (Option.bind (lL part) λz7=>(chk (decide ((((p__1++(⟨#[46]⟩:ByteArray))++z2)++(⟨#[46]⟩:ByteArray)).size≤lim)) (chk (decide (z7.size≤lim)) (some ((((p__1++(⟨#[46]⟩:ByteArray))++z2)++(⟨#[46]⟩:ByteArray))++z7)))))))))
def dL(out_3:List (List UInt8))(o8:ai)(o11:a8):Option (ai×a8×(List (List UInt8))):=
 (some ((⟨o8.place_name,o8.place_gen,o8.size,o8.last,o8.tail,(out_3.length:Int),o8.bytes⟩:ai),o11,out_3))
def aY(f28:(List (List UInt8))×Bool×ai×a8→Option (ai×a8×(List (List UInt8)))):(List (List UInt8))×Bool×ai×a8→Option (ai×a8×(List (List UInt8))):=λ(out_16,whole_21,o22,o25)=>
 (bif (whole_21&&(decide (o22.last<999999))) then
 (Option.bind (eA o22.place_name o22.place_gen o22.place_gen (w64 (o22.last+1))) λz40=>(chk (decide (z40.size≤lim)) (Option.bind (eR o25 z40) λz43=>(bif (!z43.2) then
 (dL out_16 o22 o25)
 else
 (Option.bind (mZ z43.1) λz60=>(Option.bind (ei o22.place_name o22.place_gen z40 z60.2.1 o25) λz72=>(chk (decide (out_16.length+z60.1.length≤lim)) (f28 ((out_16++z60.1),(z60.2.1==(z43.1.length:Int)),(⟨o22.place_name,o22.place_gen,o22.size,(w64 (o22.last+1)),z60.2.1,o22.count,(w64 (o22.bytes+z60.2.1))⟩:ai),z72)))))))))
 else
 (dL out_16 o22 o25))
def dV(l:ai)(dk0:a8):Option (ai×a8×(List (List UInt8))):=
 (loopN (aY) FU ([],true,l,dk0))
def jt(a0:Int)(n:Int)(b0v:ai):Option Bool:=
 (some (decide (b0v.last<n)))
def bo(d:a8):Option a8:=
 (some (⟨d.room,d.seen,d.seen,[]⟩:a8))
def gg(z48:ai×a8×(List (List UInt8)))(o74:a8):Option (a8×(Option ai)×(List (List UInt8))×Int):=
 (some (o74,(some z48.1),z48.2.2,0))
def dU(d:a8)(name:ByteArray)(size:Int):Option (a8×(Option ai)×(List (List UInt8))×Int):=
 (Option.bind (gT (!((decide ((name.size:Int)<1))||(decide (2<(name.size:Int))))) (j5 name)) λz6=>(bif (((decide ((name.size:Int)<1))||(decide (2<(name.size:Int))))||z6) then
 (some (d,none,[],1))
 else
 (Option.bind (m_seglog_place_holds name 0 d) λz10=>(bif (z10.2.2 != 0) then
 (some (d,none,[],z10.2.2))
 else
 (Option.bind (hZ d) λz21=>(Option.bind (cq name z10.1) λz24=>(chk (decide (z24.size≤lim)) (Option.bind (ei name z10.1 z24 z10.2.1 d) λz27=>(Option.bind (aD z27 name z10.1 (λx y=>gW x y z10.1)) λz37=>(Option.bind (dV (⟨name,z10.1,(max size 16),0,0,0,0⟩:ai) z37) λz48=>(Option.bind (aD z48.2.1 name z10.1 (λx y=>jt x y z48.1)) λz64=>(Option.bind (hZ z64) λz77=>(bif (z77 != z21) then
 (Option.bind (bo z64) λz80=>(gg z48 z80))
 else
 (gg z48 z64))))))))))))))
def ke(b:List UInt8)(at_:Int)(most:Int):Option (ByteArray×Int×Int):=
 (Option.bind (gX b at_) λz1=>(bif (z1.2.2 != 0) then
 (some (ByteArray.empty,0,z1.2.2))
 else
 (bif (decide ((max most 0)<z1.1)) then
 (some (ByteArray.empty,0,3))
 else
 (bif (decide ((w64 ((b.length:Int) - z1.2.1))<z1.1)) then
 (some (ByteArray.empty,0,4))
 else
 (chk (inle (w64 (z1.2.1+z1.1)) b.length) (chk (decide (0≤z1.2.1)) (chk (decide (z1.2.1.toNat≤(w64 (z1.2.1+z1.1)).toNat)) (some ((⟨(List.drop z1.2.1.toNat (List.take ((w64 (z1.2.1+z1.1)).toNat) b)).toArray⟩:ByteArray),(w64 (z1.2.1+z1.1)),0)))))))))
def db(r_:aa)(z2:ByteArray×Int×Int): Option (Option (aa×ByteArray)):=
 (chk (i64b z2.2.1) (chk (decide (z2.1.size≤lim)) (some (some ((⟨r_.b,z2.2.1⟩:aa),z2.1)))))
def bX(r_:aa):Option (Option (aa×ByteArray)):=
 (Option.bind (ke r_.b r_.at_ (r_.b.length:Int)) λz2=>(bif (z2.2.2 != 0) then
 (some none)
 else
 (db r_ z2 )))
def fj(r_:aa)(z2:Int×Int×Int): Option (Option (aa×Int)):=
 (chk (i64b z2.2.1) (chk (i64b z2.1) (some (some ((⟨r_.b,z2.2.1⟩:aa),z2.1)))))
def be(r_:aa):Option (Option (aa×Int)):=
 (Option.bind (gX r_.b r_.at_) λz2=>(bif (z2.2.2 != 0) then
 (some none)
 else
 (fj r_ z2 )))
def d6(r_:aa):Option (Option (aa×Int)):=
 (Option.bind (be r_) λz1=>(optm z1
 (some none)
 λo3=>
 (some (some (o3.1,o3.2)))))
def eK(x29:Span)(o31:aa): Option (Option (aa×Span)):=
 (some (some (o31,x29)))
def eJ(x29:Span)(o31:aa):Option (Option (aa×Span)):=
 (bif (decide (x29.t<x29.f)) then
 (some none)
 else
 (eK x29 o31 ))
def dv(r_:aa):Option (Option (aa×Span)):=
 (Option.bind (d6 r_) λz2=>(optm z2
 (some none)
 λo4=>
 (Option.bind (be o4.1) λz15=>(optm z15
 (some none)
 λo17=>
 (Option.bind (be o17.1) λz35=>(optm z35
 (some none)
 λo37=>
 (eJ (⟨o4.2,o17.2,(w64 (o17.2+o37.2))⟩:Span) o37.1)))))))
def b6(f28:(List Span)×aa→Option (Option (aa×(List Span))))(i29:Nat):(List Span)×aa→Option (Option (aa×(List Span))):=λ(out_20,o25)=>
 (Option.bind (dv o25) λz35=>(optm z35
 (some none)
 λo37=>
 (chk (decide (out_20.length+1≤lim)) (f28 ((out_20++[o37.2]),o37.1)))))
def dO(o3:aa×Int): Option (Option (aa×(List Span))):=
 (forU (b6) (λ(out_20,o25)=>
 (some (some (o25,out_20)))) o3.2.toNat 0 ([],o3.1))
def cH(r_:aa):Option (Option (aa×(List Span))):=
 (Option.bind (be r_) λz1=>(optm z1
 (some none)
 λo3=>
 (bif (decide ((w64 ((o3.1.b.length:Int) - o3.1.at_))<o3.2)) then
 (some none)
 else
 (dO o3 ))))
def dK(o4:aa×Int)(o17:aa×Int)(o29:aa×(List Span))(x44:Bool)(x45:ByteArray)(o47:aa):Option (Option (aa×Ver)):=
 (some (some (o47,(⟨(⟨o4.2,o17.2⟩:Dot),o29.2,x44,x45⟩:Ver))))
def ek(r_:aa):Option (Option (aa×Ver)):=
 (Option.bind (d6 r_) λz2=>(optm z2
 (some none)
 λo4=>
 (Option.bind (be o4.1) λz15=>(optm z15
 (some none)
 λo17=>
 (Option.bind (cH o17.1) λz27=>(optm z27
 (some none)
 λo29=>
 (Option.bind (be o29.1) λz50=>(optm z50
 (some none)
 λo52=>
 (bif (o52.2==0) then
 (Option.bind (bX o52.1) λz63=>(optm z63
 (some none)
 λo65=>
 (dK o4 o17 o29 false o65.2 o65.1)))
 else
 (bif (o52.2==1) then
 (dK o4 o17 o29 true ByteArray.empty o52.1)
 else
 (some none)))))))))))
def ba(f28:(List Ver)×aa→Option (Option (aa×(List Ver))))(i29:Nat):(List Ver)×aa→Option (Option (aa×(List Ver))):=λ(out_20,o25)=>
 (Option.bind (ek o25) λz35=>(optm z35
 (some none)
 λo37=>
 (chk (decide (out_20.length+1≤lim)) (f28 ((out_20++[o37.2]),o37.1)))))
def dY(o3:aa×Int): Option (Option (aa×(List Ver))):=
 (forU (ba) (λ(out_20,o25)=>
 (some (some (o25,out_20)))) o3.2.toNat 0 ([],o3.1))
def cX(r_:aa):Option (Option (aa×(List Ver))):=
 (Option.bind (be r_) λz1=>(optm z1
 (some none)
 λo3=>
 (bif (decide ((w64 ((o3.1.b.length:Int) - o3.1.at_))<o3.2)) then
 (some none)
 else
 (dY o3 ))))
def ef(r_:aa):Option (Option (aa×Rec)):=
 (Option.bind (bX r_) λz2=>(optm z2
 (some none)
 λo4=>
 (Option.bind (cX o4.1) λz14=>(optm z14
 (some none)
 λo16=>
 (some (some (o16.1,(⟨o4.2,o16.2⟩:Rec))))))))
def jl(b0v0:ByteArray)(b0v1:List Ver)(b1v:Int):Option (ByteArray×(List Ver)×Int):=
 (some (ByteArray.empty,[],2))
def l4(f4:Span→Option Bool)(i5:Nat)(ei5:Span):Span→Option Bool:=λx2=>
 (bif (((((((decide (ei5.s<1))||(decide (16<ei5.s)))||(decide (ei5.f<1)))||(decide (ei5.t<ei5.f)))||(decide (4611686018427387904<ei5.t)))||(decide (ei5.s<x2.s)))||((ei5.s==x2.s)&&(decide (ei5.f≤(w64 (x2.t+1)))))) then
 (some false)
 else
 (f4 ei5))
def jb(l:List Span):Option Bool:=
 (forI (l4) (λx2=>
 (some (decide ((l.length:Int)≤1024)))) 0 l (⟨0,0,0⟩:Span))
def kO(f3:Int→Option Int)(top_10:Int):Option Int:=
 (f3 top_10)
def kN(s_:Int)(f3:Int→Option Int)(i4:Nat)(ei4:Span):Int→Option Int:=λtop_1=>
 (bif (ei4.s==s_) then
 (kO f3 (max top_1 ei4.t))
 else
 (kO f3 top_1))
def mq(l:List Span)(s_:Int):Option Int:=
 (forI (kN s_) (λtop_1=>
 (some top_1)) 0 l 0)
def gV(v_:Ver):Option Bool:=
 (Option.bind (jb [(⟨v_.dot.s,v_.dot.n,v_.dot.n⟩:Span)]) λz6=>(Option.bind (gT z6 (jb v_.past)) λz11=>(Option.bind (gT (z6&&z11) (mq v_.past v_.dot.s)) λz22=>(some ((((z6&&z11)&&(decide (z22<v_.dot.n)))&&(decide ((v_.val.size:Int)≤256)))&&((!v_.gone)||(v_.val==ByteArray.empty)))))))
def mD(a:Dot)(b:Dot):Option Bool:=
 (some ((decide (a.s<b.s))||((a.s==b.s)&&(decide (a.n<b.n)))))
def mC(d:Dot)(f2:Unit→Option Bool)(i3:Nat)(ei3:Span):Unit→Option Bool:=λ_=>
 (bif (((ei3.s==d.s)&&(decide (ei3.f≤d.n)))&&(decide (d.n≤ei3.t))) then
 (some true)
 else
 (f2 ()))
def nR(l:List Span)(d:Dot):Option Bool:=
 (forI (mC d) (λ_=>
 (some false)) 0 l ())
def kz(d:Dot)(f2:Unit→Option Bool)(i3:Nat)(ei3:Ver):Unit→Option Bool:=λ_=>
 (Option.bind (nR (ei3.past) d) λz13=>(bif z13 then
 (some true)
 else
 (f2 ())))
def jD(d:Dot)(l:List Ver):Option Bool:=
 (forI (kz d) (λ_=>
 (some false)) 0 l ())
def nb(l:List Ver)(f1:Unit→Option Bool)(i2:Nat)(ei2:Ver):Unit→Option Bool:=λ_=>
 (Option.bind (gV ei2) λz12=>(chk (imp ((!(!z12))&&(decide (0<(i2:Int)))) (inb (w64 ((i2:Int) - 1)) l.length)) (Option.bind (gT ((!(!z12))&&(decide (0<(i2:Int)))) (mD ((gt l ((w64 ((i2:Int) - 1)).toNat)).dot) (ei2.dot))) λz30=>(Option.bind (gT (!((!z12)||((decide (0<(i2:Int)))&&(!z30)))) (jD (ei2.dot) l)) λz38=>(bif (((!z12)||((decide (0<(i2:Int)))&&(!z30)))||z38) then
 (some false)
 else
 (f1 ()))))))
def kG(l:List Ver):Option Bool:=
 (forI (nb l) (λ_=>
 (some (decide ((l.length:Int)≤512)))) 0 l ())
def cL(r_:Rec):Option Bool:=
 (Option.bind (gT ((decide (1≤(r_.key.size:Int)))&&(decide ((r_.key.size:Int)≤32))) (kG r_.vers)) λz9=>(some (((decide (1≤(r_.key.size:Int)))&&(decide ((r_.key.size:Int)≤32)))&&z9)))
def dI(o7:aa×Rec): Option (Rec×Int):=
 (some (o7.2,0))
def f0(b:List UInt8):Option (Rec×Int):=
 (Option.bind (ef (⟨b,0⟩:aa)) λz5=>(optm z5
 (Option.bind (jl ByteArray.empty [] 0) λz10=>(some ((⟨z10.1,z10.2.1⟩:Rec),z10.2.2)))
 λo7=>
 (Option.bind (gT (!(o7.1.at_ != (b.length:Int))) (cL o7.2)) λz35=>(bif ((o7.1.at_ != (b.length:Int))||(!z35)) then
 (Option.bind (jl o7.2.key o7.2.vers 0) λz41=>(some ((⟨z41.1,z41.2.1⟩:Rec),z41.2.2)))
 else
 (dI o7 )))))
def eN(b:List UInt8):Option (Rec×Int):=
 (Option.bind (f0 b) λz2=>(some (z2.1,z2.2)))
def ey(s_:ae)(r_:Rec)(b:List UInt8):Option ae:=
 (bif (decide (0<(r_.vers.length:Int))) then
 (some (⟨s_.log,(mput r_.key b (mdel r_.key s_.keys))⟩:ae))
 else
 (some (⟨s_.log,(mdel r_.key s_.keys)⟩:ae)))
def bq(z1:a8×(Option ai)×(List (List UInt8))×Int)(f31:ae→Option (a8×(Option ae)×Int))(i32:Nat)(ei32:(List UInt8)):ae→Option (a8×(Option ae)×Int):=λo28=>
 (Option.bind (eN ei32) λz41=>(bif (z41.2 != 0) then
 (some (z1.1,none,z41.2))
 else
 (Option.bind (ey o28 z41.1 ei32) λz53=>(f31 z53))))
def dp(d:a8)(name:ByteArray)(size:Int):Option (a8×(Option ae)×Int):=
 (Option.bind (dU d name size) λz1=>(bif (z1.2.2.2 != 0) then
 (some (z1.1,none,z1.2.2.2))
 else
 (Option.bind z1.2.1 λz21=>(forI (bq z1) (λo28=>
 (some (z1.1,(some o28),0))) 0 z1.2.2.1 (⟨z21,([]:List (ByteArray×(List UInt8)))⟩:ae)))))
def ma(s_:Int)(n:Int)(gone:Bool):Option Ver:=
 (some (⟨(⟨s_,n⟩:Dot),[],gone,ByteArray.empty⟩:Ver))
def gY(f7:(List UInt8)×Int→Option (List UInt8)):(List UInt8)×Int→Option (List UInt8):=λ(b_1,u_6)=>
 (bif (decide (127<u_6)) then
 (chk (u8b (ior .u8 (wu8 u_6) 128)) (chk (decide (b_1.length+1≤lim)) (f7 ((b_1++[(b8 (ior .u8 (wu8 u_6) 128))]),(ishr .u64 u_6 7)))))
 else
 (chk (decide (b_1.length+1≤lim)) (some (b_1++[(b8 (wu8 u_6))]))))
def fV(n:Int):Option (List UInt8):=
 (loopN (gY) FU ([],(wu64 (max n 0))))
def ox(s_:ByteArray):Option (List UInt8):=
 (Option.bind (fV (s_.size:Int)) λz1=>(chk (decide (z1.length+s_.size≤lim)) (some (z1++s_.data.toList))))
def gn(w_:aj)(s_:ByteArray):Option aj:=
 (Option.bind (ox s_) λz2=>(chk (decide (w_.b.length+z2.length≤lim)) (some (⟨(w_.b++z2)⟩:aj))))
def eh(w_:aj)(n:Int):Option aj:=
 (Option.bind (fV n) λz2=>(chk (decide (w_.b.length+z2.length≤lim)) (some (⟨(w_.b++z2)⟩:aj))))
def cB(w_:aj)(n:Int):Option aj:=
 (Option.bind (eh w_ n) λz1=>(some z1))
def gB(w_:aj)(x_:Span):Option aj:=
 (Option.bind (cB w_ x_.s) λz2=>(Option.bind (eh z2 x_.f) λz10=>(Option.bind (eh z10 (w64 (x_.t - x_.f))) λz18=>(some z18))))
def cN(f14:aj→Option aj)(i15:Nat)(ei15:Span):aj→Option aj:=λo11=>
 (Option.bind (gB o11 ei15) λz22=>(f14 z22))
def fL(w_:aj)(l:List Span):Option aj:=
 (Option.bind (cB w_ (l.length:Int)) λz1=>(forI (cN) (λo11=>
 (some o11)) 0 l z1))
def fF(w_:aj)(v_:Ver):Option aj:=
 (Option.bind (cB w_ v_.dot.s) λz2=>(Option.bind (eh z2 v_.dot.n) λz10=>(Option.bind (fL z10 v_.past) λz18=>(bif v_.gone then
 (Option.bind (cB z18 1) λz27=>(some z27))
 else
 (Option.bind (cB z18 0) λz35=>(Option.bind (gn z35 v_.val) λz43=>(some z43)))))))
def d9(f14:aj→Option aj)(i15:Nat)(ei15:Ver):aj→Option aj:=λo11=>
 (Option.bind (fF o11 ei15) λz25=>(f14 z25))
def jp(w_:aj)(l:List Ver):Option aj:=
 (Option.bind (cB w_ (l.length:Int)) λz1=>(forI (d9) (λo11=>
 (some o11)) 0 l z1))
def ic(w_:aj)(r_:Rec):Option aj:=
 (Option.bind (gn w_ r_.key) λz2=>(Option.bind (jp z2 r_.vers) λz10=>(some z10)))
def dS(r_:Rec):Option ((List UInt8)×Int):=
 (Option.bind (cL r_) λz2=>(bif (!z2) then
 (some ([],1))
 else
 (Option.bind (ic (⟨[]⟩:aj) r_) λz7=>(some (z7.b,0)))))
def nD(z13:Int)(f20:List UInt8→Option ((List UInt8)×Int))(i21:Nat):List UInt8→Option ((List UInt8)×Int):=λout_15=>
 (chk (decide (0≤(w64 (8*(i21:Int))))) (chk (decide (out_15.length+1≤lim)) (f20 (out_15++[(b8 (wu8 (ishr .u32 z13 (w64 (8*(i21:Int))))))]))))
def iu(b:List UInt8):Option ((List UInt8)×Int):=
 (bif (decide (1048576<(b.length:Int))) then
 (some ([],3))
 else
 (Option.bind (fV (b.length:Int)) λz2=>(Option.bind (mI ([z2,b]:List (List UInt8))) λz13=>(forU (nD z13) (λout_15=>
 (chk (decide (out_15.length+b.length≤lim)) (some ((out_15++b),0)))) 4 0 z2))))
def iL:Int→(ByteArray×(List UInt8))→Option Int:=λn_12 en23=>
 (some (w64 (n_12+(en23.2.length:Int))))
def kE(d:a8):Option Int:=
 (Option.bind (fldO (iL) 0 d.seen) (λn_12=>
 (some n_12)))
def nE(name:ByteArray)(b:List UInt8):Option aq:=
 (some (aq.disk_add_1 name b))
def cd(d:a8)(name:ByteArray)(b:List UInt8):Option (a8×Int):=
 (Option.bind (lN [name]) λz3=>(bif (!z3) then
 (some (d,70))
 else
 (Option.bind (kE d) λz7=>(bif (decide ((w64 (d.room - z7))<(b.length:Int))) then
 (some (d,72))
 else
 (Option.bind (dh b) λz11=>(Option.bind (nE name z11) λz26=>(Option.bind (gi d (⟨z26,name,z11⟩:aE)) λz36=>(some (z36.1,z36.2)))))))))
def ja(l:ai)(part_15:Int)(tail_17:Int)(f_40:List UInt8)(e_45:Int)(o47:a8):Option (ai×a8×Int):=
 (bif (e_45 != 0) then
 (some (l,o47,e_45))
 else
 (some ((⟨l.place_name,l.place_gen,l.size,part_15,(w64 (tail_17+(f_40.length:Int))),(w64 (l.count+1)),(w64 (l.bytes+(f_40.length:Int)))⟩:ai),o47,0)))
def e8(l:ai)(dk0:a8)(z1:(List UInt8)×Int)(part_15:Int)(tail_17:Int):Option (ai×a8×Int):=
 (bif (decide (999999<part_15)) then
 (some (l,dk0,72))
 else
 (Option.bind (eA l.place_name l.place_gen l.place_gen part_15) λz57=>(chk (decide (z57.size≤lim)) (Option.bind (cd dk0 z57 z1.1) λz60=>(ja l part_15 tail_17 z1.1 z60.2 z60.1)))))
def fJ(l:ai)(b:List UInt8)(dk0:a8):Option (ai×a8×Int):=
 (Option.bind (iu b) λz1=>(bif (z1.2 != 0) then
 (some (l,dk0,z1.2))
 else
 (bif ((l.last==0)||((decide (0<l.tail))&&(decide ((w64 (l.size - l.tail))<(z1.1.length:Int))))) then
 (e8 l dk0 z1 (w64 (l.last+1)) 0)
 else
 (e8 l dk0 z1 l.last l.tail))))
def jS(l:ai)(dk0:a8):Option a8:=
 (Option.bind (bo dk0) λz2=>(some z2))
def eY(r_:Rec)(b_15:List UInt8)(e_20:Int)(o22:ae)(o25:a8):Option (ae×a8×Int):=
 (bif (e_20 != 0) then
 (some (o22,o25,e_20))
 else
 (Option.bind (jS o22.log o25) λz54=>(Option.bind (ey o22 r_ b_15) λz63=>(some (z63,z54,0)))))
def cy(s_:ae)(r_:Rec)(dk0:a8):Option (ae×a8×Int):=
 (Option.bind (dS r_) λz2=>(bif (z2.2==0) then
 (Option.bind (fJ s_.log z2.1 dk0) λz35=>(eY r_ z2.1 z35.2.2 (⟨z35.1,s_.keys⟩:ae) z35.2.1))
 else
 (eY r_ z2.1 z2.2 s_ dk0)))
def eQ(s_:ae):Option (List ByteArray):=
 (chk (decide (s_.keys.length≤lim)) (some (dg s_.keys)))
def d8(s_:ae)(key:ByteArray):Option (List Ver):=
 (Option.bind (eN ((mget key s_.keys).getD [])) λz9=>(some z9.1.vers))
def de(s_:ae)(f18:List Rec→Option (List Rec))(i19:Nat)(ei19:ByteArray):List Rec→Option (List Rec):=λout_13=>
 (Option.bind (d8 s_ ei19) λz25=>(chk (decide (out_13.length+1≤lim)) (f18 (out_13++[(⟨ei19,z25⟩:Rec)]))))
def gC(s_:ae):Option (List Rec):=
 (Option.bind (eQ s_) λz1=>(forI (de s_) (λout_13=>
 (some out_13)) 0 z1 []))
def mF(v_:List Int)(d:Dot):Option Bool:=
 (chk (imp (((decide (1≤d.s))&&(decide (d.s≤(v_.length:Int))))&&(decide (1≤d.n))) (inb (w64 (d.s - 1)) v_.length)) (some ((((decide (1≤d.s))&&(decide (d.s≤(v_.length:Int))))&&(decide (1≤d.n)))&&(decide (d.n≤(gt v_ ((w64 (d.s - 1)).toNat)))))))
def bZ(g_:Int)(a1:Int)(b0v:ai):Option Bool:=
 (some (g_==b0v.place_gen))
def bY(g_:Int)(a1:Int)(b0v:ai):Option Bool:=
 (some (g_==b0v.place_gen))
def bJ(g_:Int)(a1:Int)(b0v:Int):Option Bool:=
 (some (g_==b0v))
def fE(l:ai)(f27:ai×a8→Option (ai×a8×Int))(i28:Nat)(ei28:(List UInt8)):ai×a8→Option (ai×a8×Int):=λ(o21,o24)=>
 (Option.bind (fJ o21 ei28 o24) λz37=>(bif (z37.2.2 != 0) then
 (Option.bind (aD z37.2.1 z37.1.place_name z37.1.place_gen (λx y=>bZ x y z37.1)) λz53=>(some (l,z53,z37.2.2)))
 else
 (f27 (z37.1,z37.2.1))))
def dC(l:ai)(dk0:a8)(f1:Unit→Option (ai×a8×Int))(i2:Nat)(ei2:(List UInt8)):Unit→Option (ai×a8×Int):=λ_=>
 (bif (decide (1048576<(ei2.length:Int))) then
 (some (l,dk0,3))
 else
 (f1 ()))
def ff(l:ai)(list:List (List UInt8))(dk0:a8):Option (ai×a8×Int):=
 (forI (dC l dk0) (λ_=>
 (bif (l.place_gen==999999) then
 (some (l,dk0,72))
 else
 (forI (fE l) (λ(o21,o24)=>
 (Option.bind (bo o24) λz62=>(Option.bind (fV o21.place_gen) λz71=>(Option.bind (iu z71) λz86=>(Option.bind (cq l.place_name l.place_gen) λz103=>(chk (decide (z103.size≤lim)) (Option.bind (cd z62 z103 z86.1) λz106=>(bif (z106.2 != 0) then
 (Option.bind (aD z106.1 o21.place_name o21.place_gen (λx y=>bY x y o21)) λz119=>(some (l,z119,z106.2)))
 else
 (Option.bind (bo z106.1) λz128=>(Option.bind (aD z128 o21.place_name o21.place_gen (λx y=>bJ x y l.place_gen)) λz138=>(Option.bind (bo z138) λz146=>(some ((⟨o21.place_name,o21.place_gen,o21.size,o21.last,o21.tail,o21.count,o21.bytes⟩:ai),z146,0))))))))))))) 0 list ((⟨l.place_name,(w64 (l.place_gen+1)),l.size,0,0,0,0⟩:ai),dk0)))) 0 list ())
def gN(f22:(List (List UInt8))×(List (ByteArray×(List UInt8)))→Option (ae×a8×Int))(list_29:List (List UInt8))(m34:List (ByteArray×(List UInt8))):Option (ae×a8×Int):=
 (f22 (list_29,m34))
def dc(s_:ae)(floor:List Int)(f22:(List (List UInt8))×(List (ByteArray×(List UInt8)))→Option (ae×a8×Int))(i23:Nat)(ei23:Rec):(List (List UInt8))×(List (ByteArray×(List UInt8)))→Option (ae×a8×Int):=λ(list_14,m19)=>
 (chk (imp ((((ei23.vers).length:Nat):Int)==1) (decide (0<(ei23.vers).length))) (chk (imp (((((ei23.vers).length:Nat):Int)==1)&&(gt (ei23.vers) 0).gone) (decide (0<(ei23.vers).length))) (Option.bind (gT (((((ei23.vers).length:Nat):Int)==1)&&(gt (ei23.vers) 0).gone) (mF floor ((gt (ei23.vers) 0).dot))) λz58=>(bif ((((((ei23.vers).length:Nat):Int)==1)&&(gt (ei23.vers) 0).gone)&&z58) then
 (gN f22 list_14 m19)
 else
 (chk (decide (list_14.length+1≤lim)) (gN f22 (list_14++[((mget (ei23.key) (mput (ei23.key) ((mget (ei23.key) s_.keys).getD []) m19)).getD [])]) (mput (ei23.key) ((mget (ei23.key) s_.keys).getD []) m19)))))))
def dt(s_:ae)(floor:List Int)(dk0:a8):Option (ae×a8×Int):=
 (Option.bind (gC s_) λz4=>(forI (dc s_ floor) (λ(list_14,m19)=>
 (Option.bind (ff s_.log list_14 dk0) λz92=>(bif (z92.2.2 != 0) then
 (some ((⟨z92.1,s_.keys⟩:ae),z92.2.1,z92.2.2))
 else
 (some ((⟨z92.1,m19⟩:ae),z92.2.1,0))))) 0 z4 ([],([]:List (ByteArray×(List UInt8))))))
def nK(l:ai):Option Int:=
 (some l.count)
def iJ(s_:ae):Option Int:=
 (Option.bind (nK s_.log) λz6=>(some (w64 (z6 - (s_.keys.length:Int)))))
def l8: Option Bool:=
 (Option.bind (nN 1000) λz1=>(Option.bind (dp z1 (⟨#[115]⟩:ByteArray) 64) λz10=>(bif (!((Option.isNone z10.2.1)||(z10.2.2 != 0))) then
 (Option.bind z10.2.1 λz26=>(Option.bind (ma 1 1 false) λz29=>(Option.bind (cy z26 (⟨(⟨#[107]⟩:ByteArray),[z29]⟩:Rec) z10.1) λz45=>(bif (!(z45.2.2 != 0)) then
 (Option.bind (ma 2 1 true) λz58=>(Option.bind (cy z45.1 (⟨(⟨#[108]⟩:ByteArray),[z58]⟩:Rec) z45.2.1) λz74=>(bif (z74.2.2 != 0) then
 (some false)
 else
 (Option.bind (eQ z74.1) λz86=>(Option.bind (dt z74.1 [9,1] z74.2.1) λz103=>(bif (((z86.length:Int)==2)&&(z103.2.2==0)) then
 (Option.bind (eQ z103.1) λz118=>(Option.bind (gT ((z118.length:Int)==1) (iJ z103.1)) λz130=>(bif (((z118.length:Int)==1)&&(z130==0)) then
 (Option.bind (d8 z103.1 (⟨#[107]⟩:ByteArray)) λz135=>(bif ((z135.length:Int)==1) then
 (Option.bind (d8 z103.1 (⟨#[108]⟩:ByteArray)) λz147=>(some ((z147.length:Int)==0)))
 else
 (some false)))
 else
 (some false))))
 else
 (some false)))))))
 else
 (some false)))))
 else
 (some false))))
def fi(d:a8)(m42:List (ByteArray×(List UInt8))):Option a8:=
 (some (⟨d.room,m42,m42,[]⟩:a8))
def mY(f13:List (ByteArray×(List UInt8))→Option a8)(i14:Nat)(ei14:aE):List (ByteArray×(List UInt8))→Option a8:=λm10=>
 (Option.bind (cS (ei14.do_) m10) λz27=>(f13 z27))
def ie(d:a8)(keep:Int)(torn:Int):Option a8:=
 (chk (inle (min (max keep 0) (d.loose.length:Int)) d.loose.length) (forI (mY) (λm10=>
 (bif (decide ((min (max keep 0) (d.loose.length:Int))<(d.loose.length:Int))) then
 (chk (inb (min (max keep 0) (d.loose.length:Int)) d.loose.length) (bif (decide (0<(min (max torn 0) ((((gt d.loose ((min (max keep 0) (d.loose.length:Int)).toNat)).tail).length:Nat):Int)))) then
 (chk (inle (min (max torn 0) ((((gt d.loose ((min (max keep 0) (d.loose.length:Int)).toNat)).tail).length:Nat):Int)) (((gt d.loose ((min (max keep 0) (d.loose.length:Int)).toNat)).tail).length)) (Option.bind (nE ((gt d.loose ((min (max keep 0) (d.loose.length:Int)).toNat)).name) (List.take ((min (max torn 0) ((((gt d.loose ((min (max keep 0) (d.loose.length:Int)).toNat)).tail).length:Nat):Int)).toNat) ((gt d.loose ((min (max keep 0) (d.loose.length:Int)).toNat)).tail))) λz56=>(Option.bind (cS z56 m10) λz65=>(fi d z65))))
 else
 (fi d m10)))
 else
 (fi d m10))) 0 (List.take ((min (max keep 0) (d.loose.length:Int)).toNat) d.loose) d.safe_))
def kb(b:List Span)(f2:Unit→Option Bool)(i3:Nat)(ei3:Span):Unit→Option Bool:=λ_=>
 (chk (decide (i3<b.length)) (bif (ei3 != (gt b i3)) then
 (some false)
 else
 (f2 ())))
def jW(a:List Span)(b:List Span):Option Bool:=
 (bif ((a.length:Int) != (b.length:Int)) then
 (some false)
 else
 (forI (kb b) (λ_=>
 (some true)) 0 a ()))
def iq(a:Ver)(b:Ver):Option Bool:=
 (Option.bind (gT (((a.dot==b.dot)&&(a.gone==b.gone))&&(a.val==b.val)) (jW a.past b.past)) λz18=>(some ((((a.dot==b.dot)&&(a.gone==b.gone))&&(a.val==b.val))&&z18)))
def kp(b:List Ver)(f2:Unit→Option Bool)(i3:Nat)(ei3:Ver):Unit→Option Bool:=λ_=>
 (chk (decide (i3<b.length)) (Option.bind (iq ei3 (gt b i3)) λz16=>(bif (!z16) then
 (some false)
 else
 (f2 ()))))
def gZ(a:List Ver)(b:List Ver):Option Bool:=
 (bif ((a.length:Int) != (b.length:Int)) then
 (some false)
 else
 (forI (kp b) (λ_=>
 (some true)) 0 a ()))
def iB(b:List Rec)(f2:Unit→Option Bool)(i3:Nat)(ei3:Rec):Unit→Option Bool:=λ_=>
 (chk (decide (i3<b.length)) (Option.bind (gT (!(ei3.key != (gt b i3).key)) (gZ (ei3.vers) ((gt b i3).vers))) λz27=>(bif ((ei3.key != (gt b i3).key)||(!z27)) then
 (some false)
 else
 (f2 ()))))
def gH(a:List Rec)(b:List Rec):Option Bool:=
 (bif ((a.length:Int) != (b.length:Int)) then
 (some false)
 else
 (forI (iB b) (λ_=>
 (some true)) 0 a ()))
def iN(room_4:Int):Option a7:=
 (some (⟨room_4,[],[]⟩:a7))
def iK(room_1:Int):Option a7:=
 (bif (decide (1073741824<room_1)) then
 (iN 1073741824)
 else
 (iN room_1))
def kC(room:Int):Option a7:=
 (bif (decide (room<0)) then
 (iK 0)
 else
 (iK room))
def qU(s_:ByteArray)(f5:Unit→Option Bool)(i6:Nat):Unit→Option Bool:=λ_=>
 (bif ((((gt s_.data.toList i6).toNat:Nat):Int)==46) then
 (some false)
 else
 (f5 ()))
def ij(s_:ByteArray):Option Bool:=
 (bif (((s_.size:Int) != 1)&&((s_.size:Int) != 2)) then
 (some false)
 else
 (forU (qU s_) (λ_=>
 (some true)) s_.size 0 ()))
def mT(name:ByteArray)(f1:Unit→Option Int)(i2:Nat)(ei2:ab):Unit→Option Int:=λ_=>
 (bif (ei2.name==name) then
 (some (i2:Int))
 else
 (f1 ()))
def fD(l:List ab)(name:ByteArray):Option Int:=
 (forI (mT name) (λ_=>
 (some (-1))) 0 l ())
def cZ(l:List ab)(name:ByteArray):Option (List UInt8):=
 (Option.bind (fD l name) λz1=>(bif (decide (0≤z1)) then
 (chk (inb z1 l.length) (chk (decide (0+((gt l z1.toNat).data).length≤lim)) (some ((gt l z1.toNat).data))))
 else
 (some [])))
def fu(f6:List ab→Option (List ab))(out_13:List ab):Option (List ab):=
 (f6 out_13)
def ld(name:ByteArray)(f6:List ab→Option (List ab))(i7:Nat)(ei7:ab):List ab→Option (List ab):=λout_1=>
 (bif (ei7.name != name) then
 (chk (decide (out_1.length+1≤lim)) (fu f6 (out_1++[ei7])))
 else
 (fu f6 out_1))
def dB(l:List ab)(name:ByteArray):Option (List ab):=
 (forI (ld name) (λout_1=>
 (some out_1)) 0 l [])
def hJ(z1:List ab)(f17:(List ab)×Bool→Option (List ab))(i18:Nat)(out_24:List ab)(laid_29:Bool):Option (List ab):=
 (chk (decide (out_24.length+1≤lim)) (f17 ((out_24++[(gt z1 i18)]),laid_29)))
def mW(name:ByteArray)(b:List UInt8)(z1:List ab)(f17:(List ab)×Bool→Option (List ab))(i18:Nat)(ei18:ab):(List ab)×Bool→Option (List ab):=λ(out_11,laid_16)=>
 (bif ((!laid_16)&&(nr name (ei18.name))) then
 (chk (decide (out_11.length+1≤lim)) (hJ z1 f17 i18 (out_11++[(⟨name,b⟩:ab)]) true))
 else
 (hJ z1 f17 i18 out_11 laid_16))
def fv(l:List ab)(name:ByteArray)(b:List UInt8):Option (List ab):=
 (Option.bind (dB l name) λz1=>(forI (mW name b z1) (λ(out_11,laid_16)=>
 (bif (!laid_16) then
 (chk (decide (out_11.length+1≤lim)) (some (out_11++[(⟨name,b⟩:ab)])))
 else
 (some out_11))) 0 z1 ([],false)))
def dE(l:List ab)(c_:ak):Option (List ab):=
 (bif (c_.kind==1) then
 (Option.bind (cZ l c_.name) λz3=>(chk (decide (z3.length+c_.data.length≤lim)) (Option.bind (fv l c_.name (z3++c_.data)) λz23=>(some z23))))
 else
 (bif (c_.kind==2) then
 (Option.bind (cZ l c_.name) λz35=>(chk (inle c_.n z35.length) (Option.bind (fv l c_.name (List.take c_.n.toNat z35)) λz51=>(some z51))))
 else
 (bif (c_.kind==3) then
 (Option.bind (cZ l c_.name) λz62=>(Option.bind (dB l c_.name) λz78=>(Option.bind (fv z78 c_.to_ z62) λz93=>(some z93))))
 else
 (Option.bind (dB l c_.name) λz103=>(some z103)))))
def kj(f10:List ab→Option (List ab))(i11:Nat)(ei11:ak):List ab→Option (List ab):=λl_5=>
 (Option.bind (dE l_5 ei11) λz21=>(f10 z21))
def aQ(d:a7):Option (List ab):=
 (forI (kj) (λl_5=>
 (some l_5)) 0 d.todo d.safe_)
def cg(d:a7)(name:ByteArray):Option ((List UInt8)×Bool):=
 (Option.bind (aQ d) λz1=>(Option.bind (cZ z1 name) λz11=>(Option.bind (fD z1 name) λz21=>(some (z11,(decide (0≤z21)))))))
def eE(b:List UInt8)(f9:Int×Int×Int×Int→Option (Int×Int×Int)):Int×Int×Int×Int→Option (Int×Int×Int):=λ(at_1,n_3,one_5,i_7)=>
 (bif (decide (at_1<(b.length:Int))) then
 (chk (inb at_1 b.length) (bif (((i_7==8)&&(decide (127<(w64 (((gt b at_1.toNat).toNat:Nat):Int)))))||((decide (0<i_7))&&((w64 (((gt b at_1.toNat).toNat:Nat):Int))==0))) then
 (some (0,0,2))
 else
 (bif (decide ((w64 (((gt b at_1.toNat).toNat:Nat):Int))<128)) then
 (some ((w64 (n_3+(w64 (((w64 (((gt b at_1.toNat).toNat:Nat):Int)).tmod 128)*one_5)))),(w64 (at_1+1)),0))
 else
 (f9 ((w64 (at_1+1)),(w64 (n_3+(w64 (((w64 (((gt b at_1.toNat).toNat:Nat):Int)).tmod 128)*one_5)))),(w64 (one_5*128)),(w64 (i_7+1)))))))
 else
 (some (0,0,4)))
def cR(b:List UInt8)(at_:Int):Option (Int×Int×Int):=
 (loopN (eE b) FU (at_,0,1,0))
def eP(a:List UInt8)(b:List UInt8):Option (List UInt8):=
 (chk (decide (0+a.length≤lim)) (chk (decide (a.length+b.length≤lim)) (some (a++b))))
def bH(f11:Int×(List UInt8)→Option (List UInt8)):Int×(List UInt8)→Option (List UInt8):=λ(n_4,b_6)=>
 (bif (decide (128≤n_4)) then
 (chk (decide (b_6.length+1≤lim)) (f11 ((w64 (n_4.tdiv 128)),(b_6++[(b8 (wu8 (w64 ((n_4.tmod 128)+128))))]))))
 else
 (chk (decide (b_6.length+1≤lim)) (some (b_6++[(b8 (wu8 n_4))]))))
def ga(n_1:Int):Option (List UInt8):=
 (loopN (bH) FU (n_1,[]))
def cw(n:Int):Option (List UInt8):=
 (bif (decide (n<0)) then
 (ga 0)
 else
 (ga n))
def il(f10:Int→Option Int)(r_17:Int):Option Int:=
 (f10 r_17)
def i8(f10:Int→Option Int)(i11:Nat):Int→Option Int:=λr_9=>
 (bif ((r_9.tmod 2)==1) then
 (il f10 (ixor .u32 (wu32 (r_9.tdiv 2)) 3988292384))
 else
 (il f10 (wu32 (r_9.tdiv 2))))
def im(f2:Int→Option Int)(i3:Nat)(ei3:UInt8):Int→Option Int:=λr_1=>
 (forU (i8) (λr_9=>
 (f2 r_9)) 8 0 (ixor .u32 r_1 (wu32 (ei3.toNat:Int))))
def kD(b:List UInt8):Option Int:=
 (forI (im) (λr_1=>
 (some (ixor .u32 r_1 4294967295))) 0 b 4294967295)
def eS(b:List UInt8):Option (List UInt8):=
 (Option.bind (cw (b.length:Int)) λz1=>(Option.bind (eP z1 b) λz11=>(Option.bind (kD z11) λz21=>(chk (decide (z1.length+4≤lim)) (Option.bind (eP (z1++[(b8 (wu8 (z21.tmod 256))),(b8 (wu8 ((wu32 (z21.tdiv 256)).tmod 256))),(b8 (wu8 ((wu32 (z21.tdiv 65536)).tmod 256))),(b8 (wu8 (wu32 (z21.tdiv 16777216))))]) b) λz30=>(some z30))))))
def jR(b:List UInt8)(at_:Int):Option ((List UInt8)×Int×Int):=
 (Option.bind (cR b at_) λz1=>(bif (z1.2.2 != 0) then
 (chk (i64b z1.2.2) (some ([],0,z1.2.2)))
 else
 (bif (decide (1048576<z1.1)) then
 (some ([],0,3))
 else
 (bif (decide ((w64 ((b.length:Int) - z1.2.1))<(w64 (z1.1+4)))) then
 (some ([],0,4))
 else
 (chk (inle (w64 ((w64 (z1.2.1+4))+z1.1)) b.length) (chk (decide (0≤(w64 (z1.2.1+4)))) (chk (decide ((w64 (z1.2.1+4)).toNat≤(w64 ((w64 (z1.2.1+4))+z1.1)).toNat)) (Option.bind (eP [] (List.drop ((w64 (z1.2.1+4)).toNat) (List.take ((w64 ((w64 (z1.2.1+4))+z1.1)).toNat) b))) λz10=>(chk (decide (0≤at_)) (chk (decide (at_.toNat≤(w64 ((w64 (z1.2.1+4))+z1.1)).toNat)) (Option.bind (eS z10) λz28=>(bif ((⟨z28.toArray⟩:ByteArray) != (⟨(List.drop at_.toNat (List.take ((w64 ((w64 (z1.2.1+4))+z1.1)).toNat) b)).toArray⟩:ByteArray)) then
 (some ([],0,20))
 else
 (some (z10,(w64 ((w64 (z1.2.1+4))+z1.1)),0))))))))))))))
def cu(b:List UInt8)(f10:(List (List UInt8))×Int→Option ((List (List UInt8))×Int×Int)):(List (List UInt8))×Int→Option ((List (List UInt8))×Int×Int):=λ(out_3,at_8)=>
 (bif (decide (at_8<(b.length:Int))) then
 (Option.bind (jR b at_8) λz15=>(bif (z15.2.2 != 0) then
 (some (out_3,at_8,z15.2.2))
 else
 (chk (decide (out_3.length+1≤lim)) (f10 ((out_3++[z15.1]),z15.2.1)))))
 else
 (some (out_3,at_8,0)))
def iR(b:List UInt8):Option ((List (List UInt8))×Int×Int):=
 (loopN (cu b) FU ([],0))
def jH(f30:Int→Option (Int×Int×Int))(i31:Nat)(ei31:(List UInt8)):Int→Option (Int×Int×Int):=λgen_29=>
 (Option.bind (cR ei31 0) λz40=>(bif ((((z40.2.2 != 0)||(z40.2.1 != (ei31.length:Int)))||(decide (z40.1<1)))||(decide (999999<z40.1))) then
 (some (0,0,2))
 else
 (f30 z40.1)))
def m_firthref09_holds(d:a7)(name:ByteArray):Option (Int×Int×Int):=
 (chk (decide ((name++(⟨#[46,109]⟩:ByteArray)).size≤lim)) (Option.bind (cg d (name++(⟨#[46,109]⟩:ByteArray))) λz2=>(Option.bind (iR z2.1) λz17=>(forI (jH) (λgen_29=>
 (chk (i64b gen_29) (some (gen_29,z17.2.1,0)))) 0 z17.1 0))))
def gr(s_:ByteArray):Option Bool:=
 (some ((s_==ByteArray.empty)||(decide (16<(s_.size:Int)))))
def cW(f13:Int→Option Int)(i14:Nat)(ei14:ab):Int→Option Int:=λn_11=>
 (f13 (w64 (n_11+(((ei14.data).length:Nat):Int))))
def fY(d:a7):Option Int:=
 (Option.bind (aQ d) λz1=>(forI (cW) (λn_11=>
 (some n_11)) 0 z1 0))
def bx(d:a7)(c_:ak): Option (a7×Int):=
 (chk (decide (0+c_.data.length≤lim)) (chk (decide (d.todo.length+1≤lim)) (some ((⟨d.room,d.safe_,(d.todo++[c_])⟩:a7),0))))
def fy(d:a7)(c_:ak)(x_32:Bool):Option (a7×Int):=
 (bif x_32 then
 (some (d,72))
 else
 (bx d c_ ))
def dA(d:a7)(c_:ak):Option (a7×Int):=
 (Option.bind (gr c_.name) λz2=>(Option.bind (gT ((!z2)&&(c_.kind==3)) (gr c_.to_)) λz11=>(bif (z2||((c_.kind==3)&&z11)) then
 (some (d,70))
 else
 (Option.bind (aQ d) λz15=>(Option.bind (fD z15 c_.name) λz25=>(bif (c_.kind==1) then
 (Option.bind (fY d) λz36=>(fy d c_ (decide ((w64 (d.room - z36))<(c_.data.length:Int)))))
 else
 (bif (decide (z25<0)) then
 (some (d,71))
 else
 (bif (c_.kind==2) then
 (chk (imp (!(decide (c_.n<0))) (inb z25 z15.length)) (bif ((decide (c_.n<0))||(decide (((((gt z15 z25.toNat).data).length:Nat):Int)<c_.n))) then
 (some (d,1))
 else
 (bx d c_ )))
 else
 (bx d c_ )))))))))
def gL(d:a7)(name:ByteArray)(n:Int):Option (a7×Int):=
 (Option.bind (dA d (⟨2,name,ByteArray.empty,[],n⟩:ak)) λz1=>(some (z1.1,z1.2)))
def bU(d:a7)(file:ByteArray)(n:Int):Option a7:=
 (Option.bind (cg d file) λz1=>(bif (z1.2&&(decide (n<(z1.1.length:Int)))) then
 (Option.bind (gL d file n) λz16=>(some z16.1))
 else
 (some d)))
def fa(s_:ByteArray)(f13:Int→Option (Int×Int))(i14:Nat):Int→Option (Int×Int):=λn_11=>
 (bif ((decide ((((gt s_.data.toList i14).toNat:Nat):Int)<48))||(decide (57<(((gt s_.data.toList i14).toNat:Nat):Int)))) then
 (some (0,2))
 else
 (bif (decide ((w64 ((w64 (9223372036854775807 - (w64 ((w64 (((gt s_.data.toList i14).toNat:Nat):Int)) - 48)))).tdiv 10))<n_11)) then
 (some (0,2))
 else
 (f13 (w64 ((w64 (10*n_11))+(w64 ((w64 (((gt s_.data.toList i14).toNat:Nat):Int)) - 48)))))))
def io(s_:ByteArray):Option (Int×Int):=
 (chk (imp ((!(s_==ByteArray.empty))&&(decide (1<(s_.size:Int)))) (decide (0<s_.size))) (bif ((s_==ByteArray.empty)||((decide (1<(s_.size:Int)))&&((((gt s_.data.toList 0).toNat:Nat):Int)==48))) then
 (some (0,2))
 else
 (forU (fa s_) (λn_11=>
 (some (n_11,0))) s_.size 0 0)))
def bw(file:ByteArray)(name:ByteArray)(f15:Int→Option (Int×Int×Bool)):Int→Option (Int×Int×Bool):=λi_13=>
 (bif (decide (i_13<(file.size:Int))) then
 (chk (inb i_13 file.size) (bif ((((gt file.data.toList i_13.toNat).toNat:Nat):Int) != 46) then
 (f15 (w64 (i_13+1)))
 else
 (chk (inle i_13 file.size) (chk (inle (w64 ((name.size:Int)+1)) i_13.toNat) (Option.bind (io (file.extract ((w64 ((name.size:Int)+1)).toNat) i_13.toNat)) λz24=>(chk (inle (w64 (i_13+1)) file.size) (Option.bind (io (file.extract ((w64 (i_13+1)).toNat) file.size)) λz27=>(some (z24.1,z27.1,(((((z24.2==0)&&(z27.2==0))&&(decide (z24.1≤999999)))&&(decide (1≤z27.1)))&&(decide (z27.1≤999999))))))))))))
 else
 (some (0,0,false)))
def kU(file:ByteArray)(name:ByteArray):Option (Int×Int×Bool):=
 (Option.bind (some (decide ((file.size:Int)≤(w64 ((name.size:Int)+1))))) λz1=>(chk (imp (!z1) (inle (w64 ((name.size:Int)+1)) file.size)) (Option.bind (some (z1||((file.extract 0 ((w64 ((name.size:Int)+1)).toNat)) != (name++(⟨#[46]⟩:ByteArray))))) λz10=>(bif z10 then
 (some (0,0,false))
 else
 (loopN (bw file name) FU (w64 ((name.size:Int)+1)))))))
def eW(d:a7)(name:ByteArray):Option (a7×Int):=
 (Option.bind (dA d (⟨4,name,ByteArray.empty,[],0⟩:ak)) λz1=>(some (z1.1,z1.2)))
def fZ(f16:a7→Option a7)(o25:a7):Option a7:=
 (f16 o25)
def fW(name:ByteArray)(gen:Int)(other:Bool)(above:Int)(f16:a7→Option a7)(i17:Nat)(ei17:ab):a7→Option a7:=λo13=>
 (Option.bind (kU (ei17.name) name) λz31=>(bif (z31.2.2&&((other&&(z31.1 != gen))||(((!other)&&(z31.1==gen))&&(decide (above<z31.2.1))))) then
 (Option.bind (eW o13 (ei17.name)) λz54=>(fZ f16 z54.1))
 else
 (fZ f16 o13)))
def bB(d:a7)(name:ByteArray)(gen:Int)(other:Bool)(above:Int):Option a7:=
 (Option.bind (aQ d) λz1=>(forI (fW name gen other above) (λo13=>
 (some o13)) 0 z1 d))
def ep(s_1:ByteArray)(m_2:Int)(f4:ByteArray×Int→Option ByteArray)(d_11:Int):Option ByteArray:=
 (chk (decide (s_1.size≤lim)) (f4 (((⟨[(b8 (wu8 (w64 (48+d_11))))].toArray⟩:ByteArray)++s_1),(w64 (m_2.tdiv 10)))))
def bI(n:Int)(f4:ByteArray×Int→Option ByteArray):ByteArray×Int→Option ByteArray:=λ(s_1,m_2)=>
 (bif ((s_1==ByteArray.empty)||(m_2 != 0)) then
 (bif (decide ((m_2.tmod 10)<0)) then
 (ep s_1 m_2 f4 (w64 (0 - (m_2.tmod 10))))
 else
 (ep s_1 m_2 f4 (m_2.tmod 10)))
 else
 (bif (decide (n<0)) then
 (chk (decide (s_1.size≤lim)) (some ((⟨#[45]⟩:ByteArray)++s_1)))
 else
 (some s_1)))
def fN(n:Int):Option ByteArray:=
 (loopN (bI n) FU (ByteArray.empty,n))
def fp(name:ByteArray)(gen:Int)(part:Int):Option ByteArray:=
 (Option.bind (fN gen) λz1=>(chk (decide ((name++(⟨#[46]⟩:ByteArray)).size≤lim)) (chk (decide (z1.size≤lim)) (chk (decide (((name++(⟨#[46]⟩:ByteArray))++z1).size≤lim)) (Option.bind (fN part) λz6=>(chk (decide ((((name++(⟨#[46]⟩:ByteArray))++z1)++(⟨#[46]⟩:ByteArray)).size≤lim)) (chk (decide (z6.size≤lim)) (some ((((name++(⟨#[46]⟩:ByteArray))++z1)++(⟨#[46]⟩:ByteArray))++z6)))))))))
def bd(d:a7):Option a7:=
 (Option.bind (aQ d) λz1=>(some (⟨d.room,z1,[]⟩:a7)))
def kl(name:ByteArray)(size:Int)(out_40:List (List UInt8))(o45:af)(o137:a7):Option (a7×(Option af)×(List (List UInt8))×Int):=
 (some (o137,(some (⟨o45.name,o45.size,o45.gen,o45.parts,(out_40.length:Int)⟩:af)),out_40,0))
def dJ(d:a7)(name:ByteArray)(size:Int)(z4:Int×Int×Int)(out_40:List (List UInt8))(o45:af)(o48:a7):Option (a7×(Option af)×(List (List UInt8))×Int):=
 (Option.bind (bB o48 name z4.1 false (o45.parts.length:Int)) λz126=>(bif ((z126.todo.length:Int) != (d.todo.length:Int)) then
 (Option.bind (bd z126) λz143=>(kl name size out_40 o45 z143))
 else
 (kl name size out_40 o45 z126)))
def bV(d:a7)(name:ByteArray)(size:Int)(z4:Int×Int×Int)(f64:(List (List UInt8))×af×a7→Option (a7×(Option af)×(List (List UInt8))×Int)):(List (List UInt8))×af×a7→Option (a7×(Option af)×(List (List UInt8))×Int):=λ(out_53,o58,o61)=>
 (bif (decide ((o58.parts.length:Int)<999999)) then
 (Option.bind (fp name z4.1 (w64 ((o58.parts.length:Int)+1))) λz70=>(chk (decide (z70.size≤lim)) (Option.bind (cg o61 z70) λz73=>(bif (!z73.2) then
 (dJ d name size z4 out_53 o58 o61)
 else
 (Option.bind (iR z73.1) λz90=>(Option.bind (bU o61 z70 z90.2.1) λz102=>(chk (decide (out_53.length+z90.1.length≤lim)) (chk (decide (o58.parts.length+1≤lim)) (bif (decide (z90.2.1<(z73.1.length:Int))) then
 (dJ d name size z4 (out_53++z90.1) (⟨o58.name,o58.size,o58.gen,(o58.parts++[z90.2.1]),o58.records⟩:af) z102)
 else
 (f64 ((out_53++z90.1),(⟨o58.name,o58.size,o58.gen,(o58.parts++[z90.2.1]),o58.records⟩:af),z102)))))))))))
 else
 (dJ d name size z4 out_53 o58 o61))
def fh(d:a7)(name:ByteArray)(size:Int)(z4:Int×Int×Int)(size_14:Int):Option (a7×(Option af)×(List (List UInt8))×Int):=
 (chk (decide ((name++(⟨#[46,109]⟩:ByteArray)).size≤lim)) (Option.bind (bU d (name++(⟨#[46,109]⟩:ByteArray)) z4.2.1) λz20=>(Option.bind (bB z20 name z4.1 true 0) λz28=>(loopN (bV d name size z4) FU ([],(⟨name,size_14,z4.1,[],0⟩:af),z28)))))
def fA(d:a7)(name:ByteArray)(size:Int):Option (a7×(Option af)×(List (List UInt8))×Int):=
 (Option.bind (ij name) λz1=>(bif (!z1) then
 (some (d,none,[],1))
 else
 (Option.bind (m_firthref09_holds d name) λz4=>(bif (z4.2.2 != 0) then
 (some (d,none,[],z4.2.2))
 else
 (bif (decide (size<16)) then
 (fh d name size z4 16)
 else
 (fh d name size z4 size))))))
def ka(b:List UInt8)(z1:Int×Int×Int)(most_4:Int):Option (ByteArray×Int×Int):=
 (bif (decide (most_4<z1.1)) then
 (some (ByteArray.empty,0,3))
 else
 (bif (decide ((w64 ((b.length:Int) - z1.2.1))<z1.1)) then
 (some (ByteArray.empty,0,4))
 else
 (chk (inle (w64 (z1.2.1+z1.1)) b.length) (chk (decide (0≤z1.2.1)) (chk (decide (z1.2.1.toNat≤(w64 (z1.2.1+z1.1)).toNat)) (some ((⟨(List.drop z1.2.1.toNat (List.take ((w64 (z1.2.1+z1.1)).toNat) b)).toArray⟩:ByteArray),(w64 (z1.2.1+z1.1)),0)))))))
def jY(b:List UInt8)(at_:Int)(most:Int):Option (ByteArray×Int×Int):=
 (Option.bind (cR b at_) λz1=>(bif (z1.2.2 != 0) then
 (some (ByteArray.empty,0,z1.2.2))
 else
 (bif (decide (most<0)) then
 (ka b z1 0)
 else
 (ka b z1 most))))
def ce(r_:ac):Option (ac×ByteArray):=
 (bif r_.bad then
 (some (r_,ByteArray.empty))
 else
 (Option.bind (jY r_.b r_.at_ (r_.b.length:Int)) λz4=>(bif (z4.2.2 != 0) then
 (some ((⟨r_.b,r_.at_,true⟩:ac),ByteArray.empty))
 else
 (chk (i64b z4.2.1) (chk (decide (z4.1.size≤lim)) (some ((⟨r_.b,z4.2.1,r_.bad⟩:ac),z4.1)))))))
def b9(r_:ac):Option (ac×Int):=
 (bif r_.bad then
 (some (r_,0))
 else
 (Option.bind (cR r_.b r_.at_) λz4=>(bif (z4.2.2 != 0) then
 (some ((⟨r_.b,r_.at_,true⟩:ac),0))
 else
 (chk (i64b z4.2.1) (chk (i64b z4.1) (some ((⟨r_.b,z4.2.1,r_.bad⟩:ac),z4.1)))))))
def bS(r_:ac):Option (ac×Int):=
 (Option.bind (b9 r_) λz1=>(bif (decide ((w64 ((z1.1.b.length:Int) - z1.1.at_))<z1.2)) then
 (some ((⟨z1.1.b,z1.1.at_,true⟩:ac),0))
 else
 (some (z1.1,z1.2))))
def aM(z1:ac×Int)(f22:(List Span)×Int×ac→Option (ac×(List Span))):(List Span)×Int×ac→Option (ac×(List Span)):=λ(out_12,i_17,o19)=>
 (bif ((decide (i_17<z1.2))&&(!o19.bad)) then
 (Option.bind (b9 o19) λz35=>(Option.bind (b9 z35.1) λz44=>(Option.bind (b9 z44.1) λz53=>(bif ((decide (4611686018427387904<z44.2))||(decide (4611686018427387904<z53.2))) then
 (some ((⟨z53.1.b,z53.1.at_,true⟩:ac),[]))
 else
 (chk (decide (out_12.length+1≤lim)) (f22 ((out_12++[(⟨z35.2,z44.2,(w64 (z44.2+z53.2))⟩:Span)]),(w64 (i_17+1)),z53.1)))))))
 else
 (some (o19,out_12)))
def cD(r_:ac):Option (ac×(List Span)):=
 (Option.bind (bS r_) λz1=>(loopN (aM z1) FU ([],0,z1.1)))
def cm(i_23:Int)(x25:List Ver)(f33:Int×(List Ver)×ac→Option (ac×Rec))(z47:ac×Int)(z56:ac×Int)(z65:ac×(List Span))(z77:ac×Int)(x88:ByteArray)(o103:ac):Option (ac×Rec):=
 (chk (decide (x25.length+1≤lim)) (f33 ((w64 (i_23+1)),(x25++[(⟨(⟨z47.2,z56.2⟩:Dot),z65.2,(z77.2==1),x88⟩:Ver)]),o103)))
def cn(i_23:Int)(x25:List Ver)(f33:Int×(List Ver)×ac→Option (ac×Rec))(z47:ac×Int)(z56:ac×Int)(z65:ac×(List Span))(z77:ac×Int)(x88:ByteArray)(o90:ac):Option (ac×Rec):=
 (bif (decide (1<z77.2)) then
 (cm i_23 x25 f33 z47 z56 z65 z77 x88 (⟨o90.b,o90.at_,true⟩:ac))
 else
 (cm i_23 x25 f33 z47 z56 z65 z77 x88 o90))
def aT(z2:ac×ByteArray)(z12:ac×Int)(f33:Int×(List Ver)×ac→Option (ac×Rec)):Int×(List Ver)×ac→Option (ac×Rec):=λ(i_23,x25,o30)=>
 (bif ((decide (i_23<z12.2))&&(!o30.bad)) then
 (Option.bind (b9 o30) λz47=>(Option.bind (b9 z47.1) λz56=>(Option.bind (cD z56.1) λz65=>(Option.bind (b9 z65.1) λz77=>(bif (z77.2==0) then
 (Option.bind (ce z77.1) λz94=>(cn i_23 x25 f33 z47 z56 z65 z77 z94.2 z94.1))
 else
 (cn i_23 x25 f33 z47 z56 z65 z77 ByteArray.empty z77.1))))))
 else
 (some (o30,(⟨z2.2,x25⟩:Rec))))
def df(r_:ac):Option (ac×Rec):=
 (Option.bind (ce r_) λz2=>(Option.bind (bS z2.1) λz12=>(loopN (aT z2 z12) FU (0,[],z12.1))))
def iZ(d:Dot):Option Bool:=
 (some ((((decide (1≤d.s))&&(decide (d.s≤16)))&&(decide (1≤d.n)))&&(decide (d.n≤4611686018427387904))))
def lU(l:List Span)(f2:Unit→Option Bool)(i3:Nat)(ei3:Span):Unit→Option Bool:=λ_=>
 (Option.bind (iZ (⟨ei3.s,ei3.f⟩:Dot)) λz9=>(Option.bind (gT (!(!z9)) (iZ (⟨ei3.s,ei3.t⟩:Dot))) λz23=>(bif (((!z9)||(!z23))||(decide (ei3.t<ei3.f))) then
 (some false)
 else
 (chk (imp (decide (0<(i3:Int))) (inb (w64 ((i3:Int) - 1)) l.length)) (bif ((decide (0<(i3:Int)))&&((decide (ei3.s<(gt l ((w64 ((i3:Int) - 1)).toNat)).s))||((ei3.s==(gt l ((w64 ((i3:Int) - 1)).toNat)).s)&&(decide ((w64 (ei3.f - 1))≤(gt l ((w64 ((i3:Int) - 1)).toNat)).t))))) then
 (some false)
 else
 (f2 ()))))))
def jn(l:List Span):Option Bool:=
 (bif (decide (1024<(l.length:Int))) then
 (some false)
 else
 (forI (lU l) (λ_=>
 (some true)) 0 l ()))
def iG(f3:Int→Option Int)(n_10:Int):Option Int:=
 (f3 n_10)
def kL(s_:Int)(f3:Int→Option Int)(i4:Nat)(ei4:Span):Int→Option Int:=λn_1=>
 (bif ((ei4.s==s_)&&(decide (n_1<ei4.t))) then
 (iG f3 (ei4.t))
 else
 (iG f3 n_1))
def kF(l:List Span)(s_:Int):Option Int:=
 (forI (kL s_) (λn_1=>
 (some n_1)) 0 l 0)
def gO(v_:Ver):Option Bool:=
 (Option.bind (iZ v_.dot) λz2=>(Option.bind (gT (!(!z2)) (jn v_.past)) λz7=>(Option.bind (gT (!((!z2)||(!z7))) (kF v_.past v_.dot.s)) λz16=>(bif (((!z2)||(!z7))||(decide (v_.dot.n≤z16))) then
 (some false)
 else
 (bif v_.gone then
 (some (v_.val==ByteArray.empty))
 else
 (some (decide ((v_.val.size:Int)≤256))))))))
def nq(d:Dot)(f2:Unit→Option Bool)(i3:Nat)(ei3:Span):Unit→Option Bool:=λ_=>
 (bif (((ei3.s==d.s)&&(decide (ei3.f≤d.n)))&&(decide (d.n≤ei3.t))) then
 (some true)
 else
 (f2 ()))
def kw(l:List Span)(d:Dot):Option Bool:=
 (forI (nq d) (λ_=>
 (some false)) 0 l ())
def lE(d:Dot)(f2:Unit→Option Bool)(i3:Nat)(ei3:Ver):Unit→Option Bool:=λ_=>
 (Option.bind (kw (ei3.past) d) λz12=>(bif z12 then
 (some true)
 else
 (f2 ())))
def iO(l:List Ver)(d:Dot):Option Bool:=
 (forI (lE d) (λ_=>
 (some false)) 0 l ())
def jT(a:Dot)(b:Dot):Option Bool:=
 (bif (a.s != b.s) then
 (some (decide (a.s<b.s)))
 else
 (some (decide (a.n<b.n))))
def lX(l:List Ver)(f2:Unit→Option Bool)(i3:Nat)(ei3:Ver):Unit→Option Bool:=λ_=>
 (Option.bind (gO ei3) λz12=>(Option.bind (gT (!(!z12)) (iO l (ei3.dot))) λz21=>(bif ((!z12)||z21) then
 (some false)
 else
 (chk (imp (decide (0<(i3:Int))) (inb (w64 ((i3:Int) - 1)) l.length)) (Option.bind (gT (decide (0<(i3:Int))) (jT ((gt l ((w64 ((i3:Int) - 1)).toNat)).dot) (ei3.dot))) λz40=>(bif ((decide (0<(i3:Int)))&&(!z40)) then
 (some false)
 else
 (f2 ())))))))
def jo(l:List Ver):Option Bool:=
 (bif (decide (512<(l.length:Int))) then
 (some false)
 else
 (forI (lX l) (λ_=>
 (some true)) 0 l ()))
def eL(r_:Rec):Option Bool:=
 (Option.bind (gT ((r_.key != ByteArray.empty)&&(decide ((r_.key.size:Int)≤32))) (jo r_.vers)) λz9=>(some (((r_.key != ByteArray.empty)&&(decide ((r_.key.size:Int)≤32)))&&z9)))
def cU(b:List UInt8):Option (Rec×Int):=
 (Option.bind (df (⟨b,0,false⟩:ac)) λz4=>(Option.bind (gT (!(z4.1.bad||(z4.1.at_ != (b.length:Int)))) (eL z4.2)) λz26=>(bif ((z4.1.bad||(z4.1.at_ != (b.length:Int)))||(!z26)) then
 (some ((⟨ByteArray.empty,[]⟩:Rec),2))
 else
 (some (z4.2,0)))))
def gJ(f8:(List Rec)×Bool→Option (List Rec))(out_15:List Rec)(laid_20:Bool):Option (List Rec):=
 (f8 (out_15,laid_20))
def gG(l:List Rec)(f8:(List Rec)×Bool→Option (List Rec))(i9:Nat)(out_25:List Rec)(laid_30:Bool):Option (List Rec):=
 (chk (decide (out_25.length+1≤lim)) (gJ f8 (out_25++[(gt l i9)]) laid_30))
def gF(l:List Rec)(r_:Rec)(f8:(List Rec)×Bool→Option (List Rec))(i9:Nat)(ei9:Rec):(List Rec)×Bool→Option (List Rec):=λ(out_2,laid_7)=>
 (bif (ei9.key==r_.key) then
 (gJ f8 out_2 laid_7)
 else
 (bif ((!laid_7)&&(nr r_.key (ei9.key))) then
 (chk (decide (out_2.length+1≤lim)) (gG l f8 i9 (out_2++[r_]) true))
 else
 (gG l f8 i9 out_2 laid_7)))
def fk(l:List Rec)(r_:Rec):Option (List Rec):=
 (forI (gF l r_) (λ(out_2,laid_7)=>
 (bif (!laid_7) then
 (chk (decide (out_2.length+1≤lim)) (some (out_2++[r_])))
 else
 (some out_2))) 0 l ([],((r_.vers.length:Int)==0)))
def bF(z1:a7×(Option af)×(List (List UInt8))×Int)(f28:ah→Option (a7×(Option ah)×Int))(i29:Nat)(ei29:(List UInt8)):ah→Option (a7×(Option ah)×Int):=λo25=>
 (Option.bind (cU ei29) λz38=>(bif (z38.2 != 0) then
 (some (z1.1,none,z38.2))
 else
 (Option.bind (fk o25.list z38.1) λz57=>(f28 (⟨o25.log,z57⟩:ah)))))
def d4(d:a7)(name:ByteArray)(size:Int):Option (a7×(Option ah)×Int):=
 (Option.bind (fA d name size) λz1=>(bif (z1.2.2.2 != 0) then
 (some (z1.1,none,z1.2.2.2))
 else
 (Option.bind z1.2.1 λz18=>(forI (bF z1) (λo25=>
 (some (z1.1,(some o25),0))) 0 z1.2.2.1 (⟨z18,[]⟩:ah)))))
def cE(s_:ByteArray)(f16:List UInt8→Option (List UInt8))(i17:Nat):List UInt8→Option (List UInt8):=λb_11=>
 (chk (decide (b_11.length+1≤lim)) (f16 (b_11++[(gt s_.data.toList i17)])))
def fg(s_:ByteArray):Option (List UInt8):=
 (Option.bind (cw (s_.size:Int)) λz1=>(forU (cE s_) (λb_11=>
 (some b_11)) s_.size 0 z1))
def dM(f8:List UInt8→Option (List UInt8))(i9:Nat)(ei9:Int):List UInt8→Option (List UInt8):=λb_3=>
 (Option.bind (cw ei9) λz15=>(chk (decide (b_3.length+z15.length≤lim)) (f8 (b_3++z15))))
def d5(b:List UInt8)(l:List Int):Option (List UInt8):=
 (forI (dM) (λb_3=>
 (some b_3)) 0 l b)
def da(f25:List UInt8→Option (List UInt8))(i26:Nat)(ei26:Span):List UInt8→Option (List UInt8):=λb_20=>
 (Option.bind (d5 b_20 [ei26.s,ei26.f,(w64 (ei26.t - ei26.f))]) λz40=>(f25 z40))
def jd(b:List UInt8)(l:List Span):Option (List UInt8):=
 (Option.bind (d5 b [(l.length:Int)]) λz8=>(forI (da) (λb_20=>
 (some b_20)) 0 l z8))
def iM(f41:List UInt8→Option (List UInt8))(b_50:List UInt8):Option (List UInt8):=
 (f41 b_50)
def eD(f41:List UInt8→Option (List UInt8))(i42:Nat)(ei42:Ver):List UInt8→Option (List UInt8):=λb_36=>
 (Option.bind (d5 b_36 [ei42.dot.s,ei42.dot.n]) λz66=>(Option.bind (jd z66 (ei42.past)) λz76=>(bif (ei42.gone) then
 (Option.bind (d5 z76 [1]) λz94=>(iM f41 z94))
 else
 (Option.bind (d5 z76 [0]) λz111=>(Option.bind (fg (ei42.val)) λz121=>(chk (decide (z111.length+z121.length≤lim)) (iM f41 (z111++z121))))))))
def mf(b:List UInt8)(r_:Rec):Option (List UInt8):=
 (Option.bind (fg r_.key) λz2=>(chk (decide (b.length+z2.length≤lim)) (Option.bind (d5 (b++z2) [(r_.vers.length:Int)]) λz24=>(forI (eD) (λb_36=>
 (some b_36)) 0 r_.vers z24))))
def fP(r_:Rec):Option (List UInt8):=
 (Option.bind (mf [] r_) λz2=>(some z2))
def bm(d:a7)(name:ByteArray)(b:List UInt8):Option (a7×Int):=
 (Option.bind (dA d (⟨1,name,ByteArray.empty,b,0⟩:ak)) λz1=>(some (z1.1,z1.2)))
def ez(o55:a7)(o91:af):Option (af×a7×Int):=
 (some ((⟨o91.name,o91.size,o91.gen,o91.parts,(w64 (o91.records+1))⟩:af),o55,0))
def cI(n_42:Int)(f_48:List UInt8)(o55:a7)(o79:af):Option (af×a7×Int):=
 (chk (inb (w64 (n_42 - 1)) o79.parts.length) (ez o55 (⟨o79.name,o79.size,o79.gen,(List.set o79.parts ((w64 (n_42 - 1)).toNat) (w64 ((gt o79.parts ((w64 (n_42 - 1)).toNat))+(f_48.length:Int)))),o79.records⟩:af)))
def gA(l:af)(z2:List UInt8)(n_42:Int)(f_48:List UInt8)(e_53:Int)(o55:a7):Option (af×a7×Int):=
 (bif (e_53 != 0) then
 (some (l,o55,e_53))
 else
 (bif (((l.parts.length:Int)==0)||((decide (0<(gt l.parts ((w64 ((l.parts.length:Int) - 1)).toNat))))&&(decide (l.size<(w64 ((gt l.parts ((w64 ((l.parts.length:Int) - 1)).toNat))+(z2.length:Int))))))) then
 (chk (decide (l.parts.length+1≤lim)) (cI n_42 f_48 o55 (⟨l.name,l.size,l.gen,(l.parts++[0]),l.records⟩:af)))
 else
 (cI n_42 f_48 o55 l)))
def bu(l:af)(dk0:a7)(z2:List UInt8)(n_42:Int):Option (af×a7×Int):=
 (bif (decide (999999<n_42)) then
 (some (l,dk0,72))
 else
 (Option.bind (fp l.name l.gen n_42) λz65=>(chk (decide (z65.size≤lim)) (Option.bind (bm dk0 z65 z2) λz68=>(gA l z2 n_42 z2 z68.2 z68.1)))))
def dH(l:af)(b:List UInt8)(dk0:a7):Option (af×a7×Int):=
 (bif (decide (1048576<(b.length:Int))) then
 (some (l,dk0,3))
 else
 (Option.bind (eS b) λz2=>(chk (imp (!((l.parts.length:Int)==0)) (inb (w64 ((l.parts.length:Int) - 1)) l.parts.length)) (bif (((l.parts.length:Int)==0)||((decide (0<(gt l.parts ((w64 ((l.parts.length:Int) - 1)).toNat))))&&(decide (l.size<(w64 ((gt l.parts ((w64 ((l.parts.length:Int) - 1)).toNat))+(z2.length:Int))))))) then
 (bu l dk0 z2 (w64 ((l.parts.length:Int)+1)))
 else
 (bu l dk0 z2 (l.parts.length:Int))))))
def kI(f11:List Ver→Option Rec)(i12:Nat)(ei12:Ver):List Ver→Option Rec:=λx6=>
 (chk (decide (0+(ei12.past).length≤lim)) (chk (decide (x6.length+1≤lim)) (f11 (x6++[ei12]))))
def iU(r_:Rec):Option Rec:=
 (forI (kI) (λx6=>
 (some (⟨r_.key,x6⟩:Rec))) 0 r_.vers [])
def gU(r_:Rec)(e_7:Int)(o9:ah)(o12:a7):Option (ah×a7×Int):=
 (bif (e_7 != 0) then
 (some (o9,o12,e_7))
 else
 (Option.bind (bd o12) λz47=>(Option.bind (iU r_) λz56=>(Option.bind (fk o9.list z56) λz70=>(some ((⟨o9.log,z70⟩:ah),z47,0))))))
def cO(s_:ah)(r_:Rec)(dk0:a7):Option (ah×a7×Int):=
 (Option.bind (eL r_) λz2=>(bif (!z2) then
 (some (s_,dk0,1))
 else
 (Option.bind (fP r_) λz17=>(Option.bind (dH s_.log z17 dk0) λz32=>(gU r_ z32.2.2 (⟨z32.1,s_.list⟩:ah) z32.2.1)))))
def lw(d:Dot)(f2:Unit→Option Bool)(i3:Nat)(ei3:Int):Unit→Option Bool:=λ_=>
 (bif ((i3:Int)==(w64 (d.s - 1))) then
 (some ((decide (0<d.n))&&(decide (d.n≤ei3))))
 else
 (f2 ()))
def fM(v_:List Int)(d:Dot):Option Bool:=
 (forI (lw d) (λ_=>
 (some false)) 0 v_ ())
def bN(l:af)(o25:af)(e_55:Int)(o57:a7):Option (af×a7×Int):=
 (bif (e_55 != 0) then
 (Option.bind (bB o57 l.name o25.gen false 0) λz118=>(some (l,z118,e_55)))
 else
 (Option.bind (bd o57) λz128=>(Option.bind (bB z128 l.name l.gen false 0) λz137=>(Option.bind (bd z137) λz145=>(some ((⟨l.name,l.size,o25.gen,o25.parts,o25.records⟩:af),z145,0))))))
def b7(l:af)(list:List (List UInt8))(f31:Int×Int×af×a7→Option (af×a7×Int)):Int×Int×af×a7→Option (af×a7×Int):=λ(e_21,i_23,o25,o28)=>
 (bif ((decide (i_23<(list.length:Int)))&&(e_21==0)) then
 (chk (inb i_23 list.length) (Option.bind (dH o25 (gt list i_23.toNat) o28) λz42=>(f31 (z42.2.2,(w64 (i_23+1)),z42.1,z42.2.1))))
 else
 (bif (e_21==0) then
 (Option.bind (bd o28) λz62=>(Option.bind (cw o25.gen) λz72=>(Option.bind (eS z72) λz87=>(chk (decide ((l.name++(⟨#[46,109]⟩:ByteArray)).size≤lim)) (Option.bind (bm z62 (l.name++(⟨#[46,109]⟩:ByteArray)) z87) λz103=>(bN l o25 z103.2 z103.1))))))
 else
 (bN l o25 e_21 o28)))
def cz(l:af)(dk0:a7)(f1:Unit→Option (af×a7×Int))(i2:Nat)(ei2:(List UInt8)):Unit→Option (af×a7×Int):=λ_=>
 (bif (decide (1048576<(ei2.length:Int))) then
 (some (l,dk0,3))
 else
 (f1 ()))
def dl(l:af)(list:List (List UInt8))(dk0:a7):Option (af×a7×Int):=
 (forI (cz l dk0) (λ_=>
 (bif (decide (999999≤l.gen)) then
 (some (l,dk0,72))
 else
 (loopN (b7 l list) FU (0,0,(⟨l.name,l.size,(w64 (l.gen+1)),[],0⟩:af),dk0)))) 0 list ())
def ea(f13:(List Rec)×(List (List UInt8))→Option (ah×a7×Int))(left_24:List Rec)(list_29:List (List UInt8)):Option (ah×a7×Int):=
 (f13 (left_24,list_29))
def bT(floor:List Int)(f13:(List Rec)×(List (List UInt8))→Option (ah×a7×Int))(i14:Nat)(ei14:Rec):(List Rec)×(List (List UInt8))→Option (ah×a7×Int):=λ(left_3,list_8)=>
 (chk (imp ((((ei14.vers).length:Nat):Int)==1) (decide (0<(ei14.vers).length))) (chk (imp (((((ei14.vers).length:Nat):Int)==1)&&(gt (ei14.vers) 0).gone) (decide (0<(ei14.vers).length))) (Option.bind (gT (((((ei14.vers).length:Nat):Int)==1)&&(gt (ei14.vers) 0).gone) (fM floor ((gt (ei14.vers) 0).dot))) λz53=>(bif ((((((ei14.vers).length:Nat):Int)==1)&&(gt (ei14.vers) 0).gone)&&z53) then
 (ea f13 left_3 list_8)
 else
 (chk (decide (left_3.length+1≤lim)) (Option.bind (fP ei14) λz63=>(chk (decide (list_8.length+1≤lim)) (ea f13 (left_3++[ei14]) (list_8++[z63])))))))))
def cF(s_:ah)(floor:List Int)(dk0:a7):Option (ah×a7×Int):=
 (forI (bT floor) (λ(left_3,list_8)=>
 (Option.bind (dl s_.log list_8 dk0) λz90=>(bif (z90.2.2==0) then
 (some ((⟨z90.1,left_3⟩:ah),z90.2.1,z90.2.2))
 else
 (some ((⟨z90.1,s_.list⟩:ah),z90.2.1,z90.2.2))))) 0 s_.list ([],[]))
def bj(f10:List ab→Option a7)(l_21:List ab):Option a7:=
 (f10 l_21)
def dP(f10:List ab→Option a7)(l_34:List ab)(x71:ak):Option a7:=
 (Option.bind (dE l_34 x71) λz77=>(bj f10 z77))
def bL(d:a7)(keep:Int)(torn:Int)(f10:List ab→Option a7)(i11:Nat)(l_34:List ab):Option a7:=
 (bif ((((((i11:Int)==keep)||(((i11:Int)==0)&&(decide (keep<0))))&&((gt d.todo i11).kind==1))&&(decide (0<torn)))&&(decide (0<((((gt d.todo i11).data).length:Nat):Int)))) then
 (bif (decide (torn<((((gt d.todo i11).data).length:Nat):Int))) then
 (chk (inle torn (((gt d.todo i11).data).length)) (dP f10 l_34 (⟨(gt d.todo i11).kind,(gt d.todo i11).name,(gt d.todo i11).to_,(List.take torn.toNat ((gt d.todo i11).data)),(gt d.todo i11).n⟩:ak)))
 else
 (dP f10 l_34 (gt d.todo i11)))
 else
 (bj f10 l_34))
def jU(d:a7)(keep:Int)(torn:Int)(f10:List ab→Option a7)(i11:Nat)(ei11:ak):List ab→Option a7:=λl_5=>
 (bif (decide ((i11:Int)<keep)) then
 (Option.bind (dE l_5 ei11) λz40=>(bL d keep torn f10 i11 z40))
 else
 (bL d keep torn f10 i11 l_5))
def dN(d:a7)(keep:Int)(torn:Int):Option a7:=
 (forI (jU d keep torn) (λl_5=>
 (some (⟨d.room,l_5,[]⟩:a7))) 0 d.todo d.safe_)
def iD(s_:ah):Option Int:=
 (some (w64 (s_.log.records - (s_.list.length:Int))))
def gK(f50:Unit→Option Bool)(x_59:Bool):Option Bool:=
 (bif x_59 then
 (some false)
 else
 (f50 ()))
def m7(s_:ae)(m:ah)(f50:Unit→Option Bool)(i51:Nat)(ei51:ByteArray):Unit→Option Bool:=λ_=>
 (chk (decide (i51<m.list.length)) (bif (!(ei51 != (gt m.list i51).key)) then
 (Option.bind (d8 s_ ei51) λz80=>(Option.bind (gT (!(ei51 != (gt m.list i51).key)) (gZ z80 ((gt m.list i51).vers))) λz91=>(gK f50 (!z91))))
 else
 (gK f50 true)))
def gP(s_:ae)(m:ah)(z1:List ByteArray)(x_13:Bool):Option Bool:=
 (bif x_13 then
 (some false)
 else
 (forI (m7 s_ m) (λ_=>
 (some true)) 0 z1 ()))
def jf(s_:ae)(m:ah):Option Bool:=
 (Option.bind (eQ s_) λz1=>(Option.bind (gT (!((z1.length:Int) != (m.list.length:Int))) (iJ s_)) λz19=>(Option.bind (gT (!((z1.length:Int) != (m.list.length:Int))) (iD m)) λz22=>(bif (!(((z1.length:Int) != (m.list.length:Int))||(z19 != z22))) then
 (Option.bind (gC s_) λz31=>(Option.bind (gT (!(((z1.length:Int) != (m.list.length:Int))||(z19 != z22))) (gH z31 m.list)) λz42=>(gP s_ m z1 (!z42))))
 else
 (gP s_ m z1 true)))))
def jJ: Option Bool:=
 (some true)
def gQ(f18:List ab→Option (List ab))(out_27:List ab):Option (List ab):=
 (f18 out_27)
def lZ(d:a8)(f18:List ab→Option (List ab))(i19:Nat)(ei19:ByteArray):List ab→Option (List ab):=λout_13=>
 (Option.bind (eR d ei19) λz32=>(bif z32.2 then
 (chk (decide (out_13.length+1≤lim)) (gQ f18 (out_13++[(⟨ei19,z32.1⟩:ab)])))
 else
 (gQ f18 out_13)))
def du(d:a8):Option (List ab):=
 (Option.bind (hQ d) λz1=>(forI (lZ d) (λout_13=>
 (some out_13)) 0 z1 []))
def mH(b:List ab)(f2:Unit→Option Bool)(i3:Nat)(ei3:ab):Unit→Option Bool:=λ_=>
 (chk (decide (i3<b.length)) (bif ((ei3.name != (gt b i3).name)||((⟨(ei3.data).toArray⟩:ByteArray) != (⟨((gt b i3).data).toArray⟩:ByteArray))) then
 (some false)
 else
 (f2 ())))
def eb(a:List ab)(b:List ab):Option Bool:=
 (bif ((a.length:Int) != (b.length:Int)) then
 (some false)
 else
 (forI (mH b) (λ_=>
 (some true)) 0 a ()))
def lR(m:ah):Option Bool:=
 (some false)
def lW(s_:ae):Option Bool:=
 (some false)
def bQ(f66:(Option ae)×Int×(Option ah)×Int×a7×a8→Option Bool)(o208:Option ae)(e_212:Int)(o214:Option ah)(f_218:Int)(o220:a7)(o223:a8):Option Bool:=
 (bif (!(e_212 != f_218)) then
 (bif (Option.isNone o208) then
 (bif (Option.isNone o214) then
 (Option.bind (jJ) λz259=>(bif (!(!z259)) then
 (Option.bind (du o223) λz263=>(Option.bind (aQ o220) λz273=>(Option.bind (eb z263 z273) λz283=>(bif (!z283) then
 (some false)
 else
 (f66 (o208,e_212,o214,f_218,o220,o223))))))
 else
 (some false)))
 else
 (Option.bind o214 λz286=>(Option.bind (lR z286) λz289=>(bif (!(!z289)) then
 (Option.bind (du o223) λz293=>(Option.bind (aQ o220) λz303=>(Option.bind (eb z293 z303) λz313=>(bif (!z313) then
 (some false)
 else
 (f66 (o208,e_212,(some z286),f_218,o220,o223))))))
 else
 (some false)))))
 else
 (Option.bind o208 λz317=>(bif (Option.isNone o214) then
 (Option.bind (lW z317) λz321=>(bif (!(!z321)) then
 (Option.bind (du o223) λz325=>(Option.bind (aQ o220) λz335=>(Option.bind (eb z325 z335) λz345=>(bif (!z345) then
 (some false)
 else
 (f66 ((some z317),e_212,o214,f_218,o220,o223))))))
 else
 (some false)))
 else
 (Option.bind o214 λz349=>(Option.bind (jf z317 z349) λz352=>(bif (!(!z352)) then
 (Option.bind (du o223) λz360=>(Option.bind (aQ o220) λz370=>(Option.bind (eb z360 z370) λz380=>(bif (!z380) then
 (some false)
 else
 (f66 ((some z317),e_212,(some z349),f_218,o220,o223))))))
 else
 (some false)))))))
 else
 (some false))
def aS(script:List au)(f66:(Option ae)×Int×(Option ah)×Int×a7×a8→Option Bool)(i67:Nat)(e_83:Int)(f_85:Int)(o87:Option ae)(o90:Option ah)(o93:a7)(o96:a8):Option Bool:=
 (bif ((decide (3≤(gt script i67).kind))&&(decide ((gt script i67).kind≤5))) then
 (Option.bind (dp o96 (⟨#[115]⟩:ByteArray) 64) λz230=>(Option.bind (d4 o93 (⟨#[115]⟩:ByteArray) 64) λz242=>(bQ f66 z230.2.1 z230.2.2 z242.2.1 z242.2.2 z242.1 z230.1)))
 else
 (bQ f66 o87 e_83 o90 f_85 o93 o96))
def gp(script:List au)(f66:(Option ae)×Int×(Option ah)×Int×a7×a8→Option Bool)(i67:Nat)(ei67:au):(Option ae)×Int×(Option ah)×Int×a7×a8→Option Bool:=λ(o48,e_52,o54,f_58,o60,o63)=>
 (bif (((ei67.kind==1)&&(!(Option.isNone o48)))&&(!(Option.isNone o54))) then
 (Option.bind o48 λz104=>(Option.bind o54 λz107=>(Option.bind (cy z104 (ei67.r) o63) λz110=>(Option.bind (cO z107 (ei67.r) o60) λz121=>(aS script f66 i67 z110.2.2 z121.2.2 (some z110.1) (some z121.1) z121.2.1 z110.2.1)))))
 else
 (bif (((ei67.kind==2)&&(!(Option.isNone o48)))&&(!(Option.isNone o54))) then
 (Option.bind o48 λz139=>(Option.bind o54 λz142=>(Option.bind (dt z139 (ei67.floor) o63) λz145=>(Option.bind (cF z142 (ei67.floor) o60) λz156=>(aS script f66 i67 z145.2.2 z156.2.2 (some z145.1) (some z156.1) z156.2.1 z145.2.1)))))
 else
 (bif (ei67.kind==3) then
 (Option.bind (ie o63 (ei67.n) (ei67.torn)) λz170=>(Option.bind (dN o60 (ei67.n) (ei67.torn)) λz178=>(aS script f66 i67 e_52 f_58 o48 o54 z178 z170)))
 else
 (bif (ei67.kind==4) then
 (Option.bind (cd o63 (⟨#[115,46,48,46,49]⟩:ByteArray) (ei67.data)) λz187=>(Option.bind (bm o60 (⟨#[115,46,48,46,49]⟩:ByteArray) (ei67.data)) λz196=>(bif (z187.2 != z196.2) then
 (some false)
 else
 (aS script f66 i67 z187.2 z196.2 o48 o54 z196.1 z187.1))))
 else
 (aS script f66 i67 e_52 f_58 o48 o54 o60 o63)))))
def iT(room:Int)(script:List au):Option Bool:=
 (Option.bind (l8) λz1=>(bif (!z1) then
 (some false)
 else
 (Option.bind (nN room) λz4=>(Option.bind (kC room) λz13=>(Option.bind (dp z4 (⟨#[115]⟩:ByteArray) 64) λz22=>(Option.bind (d4 z13 (⟨#[115]⟩:ByteArray) 64) λz34=>(forI (gp script) (λ(o48,e_52,o54,f_58,o60,o63)=>
 (some true)) 0 script (z22.2.1,z22.2.2,z34.2.1,z34.2.2,z34.1,z22.1))))))))
end Fw
end Go.Proofs.YtmafjpdiplfcmaaGreat
