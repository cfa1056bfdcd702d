/- What the functions compute, as Lean functions (printed by a program). No condition. -/
import Derived.Test.YtckindfllegbgaaGreatE
import Derived.Test.YtckindfllegbgaaGreatK14
import Derived.Test.YtckindfllegbgaaGreatK15
import Derived.Test.YtckindfllegbgaaGreatK16
import Derived.Test.YtckindfllegbgaaGreatK17
import Derived.Test.YtckindfllegbgaaGreatK18
import Derived.Test.YtckindfllegbgaaGreatK19
import Derived.Test.YtckindfllegbgaaGreatK20
import Derived.Test.YtckindfllegbgaaGreatK23
import Derived.Test.YtckindfllegbgaaGreatK24
import Derived.Test.YtckindfllegbgaaGreatK25
import Derived.Test.YtckindfllegbgaaGreatK26
import Derived.Test.YtckindfllegbgaaGreatK27
import Derived.Test.YtckindfllegbgaaGreatK29
import Derived.Test.YtckindfllegbgaaGreatK33
import Derived.Test.YtckindfllegbgaaGreatK34
import Derived.Test.YtckindfllegbgaaGreatK36
import Derived.Test.YtckindfllegbgaaGreatK37
namespace Go.Proofs.YtckindfllegbgaaGreat
namespace Fw
set_option linter.unusedVariables false
set_option linter.unusedSimpArgs false
set_option linter.unusedSectionVars false
open Go.RowKit
structure Odisk_Disk where
  room:Int
  safe_:(List (ByteArray×(List UInt8)))
  seen:(List (ByteArray×(List UInt8)))
  loose:(List Ddisk_change)
  deriving Inhabited,DecidableEq
abbrev YSframe_frames_1:=(List (List UInt8)×Int)
abbrev YSseglog_place_parts_1:=(List ByteArray)
structure Oseglog_Log where
  place_name:ByteArray
  place_gen:Int
  size:Int
  last:Int
  tail:Int
  count:Int
  bytes:Int
  deriving Inhabited,DecidableEq
structure Ostore_Store where
  log:Oseglog_Log
  keys:(List (ByteArray×(List UInt8)))
  deriving Inhabited,DecidableEq
structure Ocode_reader where
  b:(List UInt8)
  at_:Int
  deriving Inhabited,DecidableEq
structure Onode_Node where
  life:Int
  self_site:Int
  self_node:Int
  own:Ostore_Store
  hints:(List (Int×Ostore_Store))
  does:(List (Int×Nat))
  deriving Inhabited,DecidableEq
structure Ocode_writer where
  b:(List UInt8)
  deriving Inhabited,DecidableEq
def m_disk_New(room:Int):Option Odisk_Disk:=
 (some (⟨(min (max room 0) 1073741824),([]:List (ByteArray×(List UInt8))),([]:List (ByteArray×(List UInt8))),[]⟩:Odisk_Disk))
def m_firthlaw15_at(n:Int):Option Adr:=
 (some (⟨1,n⟩:Adr))
def m_internal_stringslite_IndexByte(s_:ByteArray)(c_:Int):Option Int:=
 (some (ixb s_ c_))
def m_internal_stringslite_Index(s_:ByteArray):Option Int:=
 (bif ((⟨#[46]⟩:ByteArray)==s_) then
 (some 0)
 else
 (Option.bind (m_internal_stringslite_IndexByte s_ 46) λz2=>(some z2)))
def m_strings_Index(s_:ByteArray):Option Int:=
 (Option.bind (m_internal_stringslite_Index s_) λz1=>(some z1))
def m_strings_Contains(s_:ByteArray):Option Bool:=
 (Option.bind (m_strings_Index s_) λz1=>(some (decide (0≤z1))))
def m_seglog_place_list(p__1:ByteArray)(p__2:Int):Option ByteArray:=
 (some (p__1++(⟨#[46,109]⟩:ByteArray)))
def m_slices_Clone_byte_byte(s_:List UInt8):Option (List UInt8):=
 (nilc s_.isEmpty (
 (some []))
 ((chk (decide (0+s_.length≤lim)) (some (([]:List UInt8)++s_)))))
def m_disk_Disk_Read(d:Odisk_Disk)(name:ByteArray):Option ((List UInt8)×Bool):=
 (Option.bind (m_slices_Clone_byte_byte ((mget name d.seen).getD [])) λz9=>(some (z9,((mget name d.seen).isSome))))
def m_num_Num_j1(e_6:Int):Option (Int×Int×Int):=
 (some (0,0,e_6))
def m_num_Num_j11(b:List UInt8)(at_:Int)(n_9:Int)(f10:Int→Option (Int×Int×Int))(i11:Nat)(x_17:Bool):Option (Int×Int×Int):=
 (bif x_17 then
 (m_num_Num_j1 2)
 else
 (bif (decide ((((gt (List.drop at_.toNat b) i11).toNat:Nat):Int)<128)) then
 (chk (decide (0≤(w64 (7*(i11:Int))))) (some ((w64 (ior .u64 n_9 (ishl .u64 (wu64 (((gt (List.drop at_.toNat b) i11).toNat:Nat):Int)) (w64 (7*(i11:Int)))))),(w64 ((w64 (at_+(i11:Int)))+1)),0)))
 else
 (chk (decide (0≤(w64 (7*(i11:Int))))) (f10 (ior .u64 n_9 (ishl .u64 (wu64 (iand .u8 (((gt (List.drop at_.toNat b) i11).toNat:Nat):Int) 127)) (w64 (7*(i11:Int)))))))))
def m_num_Num_b10(b:List UInt8)(at_:Int)(f10:Int→Option (Int×Int×Int))(i11:Nat)(ei11:UInt8):Int→Option (Int×Int×Int):=λn_9=>
 (bif (((i11:Int)==8)&&(decide (127<(ei11.toNat:Int)))) then
 (m_num_Num_j11 b at_ n_9 f10 i11 (((i11:Int)==8)&&(decide (127<(ei11.toNat:Int)))))
 else
 (m_num_Num_j11 b at_ n_9 f10 i11 ((decide (0<(i11:Int)))&&((ei11.toNat:Int)==0))))
def m_num_Num(b:List UInt8)(at_:Int):Option (Int×Int×Int):=
 (bif ((decide (at_<0))||(decide ((b.length:Int)<at_))) then
 (some (0,0,1))
 else
 (chk (inle at_ b.length) (forI (m_num_Num_b10 b at_) (λn_9=>
 (m_num_Num_j1 4)) 0 (List.drop at_.toNat b) 0)))
def m_frame_Sum_b21(f21:Int→Option Int)(i22:Nat):Int→Option Int:=λr_20=>
 (f21 (ixor .u32 (ishr .u32 r_20 1) (iand .u32 3988292384 (wu32 (0 - (iand .u32 r_20 1))))))
def m_frame_Sum_b20(f13:Int→Option Int)(i14:Nat)(ei14:UInt8):Int→Option Int:=λr_12=>
 (forU (m_frame_Sum_b21) (λr_20=>
 (f13 r_20)) 8 0 (ixor .u32 r_12 (wu32 (ei14.toNat:Int))))
def m_frame_Sum_b16(f2:Int→Option Int)(i3:Nat)(ei3:(List UInt8)):Int→Option Int:=λr_1=>
 (forI (m_frame_Sum_b20) (λr_12=>
 (f2 r_12)) 0 ei3 r_1)
def m_frame_Sum(parts:List (List UInt8)):Option Int:=
 (forI (m_frame_Sum_b16) (λr_1=>
 (some (icom .u32 r_1))) 0 parts 4294967295)
def m_frame_Next_b1(b:List UInt8)(z1:Int×Int×Int)(z15:Int)(f17:Unit→Option ((List UInt8)×Int×Int))(i18:Nat):Unit→Option ((List UInt8)×Int×Int):=λ_=>
 (chk (inb (w64 (z1.2.1+(i18:Int))) b.length) (chk (decide (0≤(w64 (8*(i18:Int))))) (bif ((((gt b ((w64 (z1.2.1+(i18:Int))).toNat)).toNat:Nat):Int) != (wu8 (ishr .u32 z15 (w64 (8*(i18:Int)))))) then
 (some ([],0,20))
 else
 (f17 ()))))
def m_frame_Next(b:List UInt8)(at_:Int):Option ((List UInt8)×Int×Int):=
 (Option.bind (m_num_Num b at_) λz1=>(bif (z1.2.2 != 0) then
 (chk (i64b z1.2.2) (some ([],0,z1.2.2)))
 else
 (bif (decide (1048576<z1.1)) then
 (some ([],0,3))
 else
 (bif (decide ((w64 ((b.length:Int) - z1.2.1))<(w64 (z1.1+4)))) then
 (some ([],0,4))
 else
 (chk (inle (w64 ((w64 (z1.2.1+4))+z1.1)) b.length) (chk (decide (0≤(w64 (z1.2.1+4)))) (chk (decide ((w64 (z1.2.1+4)).toNat≤(w64 ((w64 (z1.2.1+4))+z1.1)).toNat)) (chk (inle z1.2.1 b.length) (chk (decide (0≤at_)) (chk (decide (at_.toNat≤z1.2.1.toNat)) (Option.bind (m_frame_Sum [(List.drop at_.toNat (List.take z1.2.1.toNat b)),(List.drop ((w64 (z1.2.1+4)).toNat) (List.take ((w64 ((w64 (z1.2.1+4))+z1.1)).toNat) b))]) λz15=>(forU (m_frame_Next_b1 b z1 z15) (λ_=>
 (chk (decide (0+(List.drop ((w64 (z1.2.1+4)).toNat) (List.take ((w64 ((w64 (z1.2.1+4))+z1.1)).toNat) b)).length≤lim)) (some ((([]:List UInt8)++(List.drop ((w64 (z1.2.1+4)).toNat) (List.take ((w64 ((w64 (z1.2.1+4))+z1.1)).toNat) b))),(w64 ((w64 (z1.2.1+4))+z1.1)),0)))) 4 0 ()))))))))))))
def m_frame_frames_1_b1(Y:YSframe_frames_1→List UInt8→Int→Option YSframe_frames_1)(b0v:List UInt8)(f10:Int×Int×YSframe_frames_1→Option (YSframe_frames_1×Int)):Int×Int×YSframe_frames_1→Option (YSframe_frames_1×Int):=λ(at_3,x5,o7)=>
 (bif (decide (at_3<(b0v.length:Int))) then
 (Option.bind (m_frame_Next b0v at_3) λz15=>(bif (!(z15.2.2 != 0)) then
 (Option.bind (Y o7 z15.1 z15.2.1) λz36=>(f10 (z15.2.1,z15.2.2,z36)))
 else
 (some (o7,z15.2.2))))
 else
 (some (o7,x5)))
def m_frame_frames_1(Y:YSframe_frames_1→List UInt8→Int→Option YSframe_frames_1)(sY:YSframe_frames_1)(b0v:List UInt8)(b1v:Int):Option (YSframe_frames_1×Int):=
 (loopN (m_frame_frames_1_b1 Y b0v) FU (0,b1v,sY))
def m_frame_All_y(s:YSframe_frames_1)(b:List UInt8)(n:Int):Option YSframe_frames_1:=chk (decide (s.1.length+1≤lim)) (some (s.1++[b],n))
def m_frame_All(b:List UInt8):Option (List (List UInt8)×Int×Int):=Option.bind (m_frame_frames_1 m_frame_All_y ([],0) b 0) λz=>some (z.1.1,z.1.2,z.2)
def m_seglog_place_holds_b1(f34:Int→Option (Int×Int×Int))(i35:Nat)(ei35:(List UInt8)):Int→Option (Int×Int×Int):=λgen_33=>
 (Option.bind (m_num_Num ei35 0) λz44=>(bif ((((z44.2.2 != 0)||(z44.2.1 != (ei35.length:Int)))||(decide (z44.1<1)))||(decide (999999<z44.1))) then
 (some (0,0,2))
 else
 (f34 z44.1)))
def m_seglog_place_holds(p__1:ByteArray)(p__2:Int)(dk0:Odisk_Disk):Option (Int×Int×Int):=
 (Option.bind (m_seglog_place_list p__1 p__2) λz3=>(chk (decide (z3.size≤lim)) (Option.bind (m_disk_Disk_Read dk0 z3) λz6=>(Option.bind (m_frame_All z6.1) λz21=>(forI (m_seglog_place_holds_b1) (λgen_33=>
 (chk (i64b gen_33) (some (gen_33,z21.2.1,0)))) 0 z21.1 0)))))
def m_disk_Disk_Loose(d:Odisk_Disk):Option Int:=
 (some (d.loose.length:Int))
def m_disk_right_b1(f1:Unit→Option Bool)(i2:Nat)(ei2:ByteArray):Unit→Option Bool:=λ_=>
 (bif ((decide ((ei2.size:Int)<1))||(decide (16<(ei2.size:Int)))) then
 (some false)
 else
 (f1 ()))
def m_disk_right(names:List ByteArray):Option Bool:=
 (forI (m_disk_right_b1) (λ_=>
 (some true)) 0 names ())
def m_disk_Disk_there(d:Odisk_Disk)(name:ByteArray):Option Int:=
 (Option.bind (m_disk_right [name]) λz3=>(bif (!z3) then
 (some 70)
 else
 (bif (!((mget name d.seen).isSome)) then
 (some 71)
 else
 (some 0))))
def m_slices_Clip_byte_byte(s_:List UInt8):Option (List UInt8):=
 (some s_)
def m_disk_add_1(f_:List (ByteArray×(List UInt8)))(b0:ByteArray)(b1:(List UInt8)):Option (List (ByteArray×(List UInt8))):=
 (Option.bind (m_slices_Clip_byte_byte ((mget b0 f_).getD [])) λz9=>(chk (decide (((mget b0 f_).getD []).length+b1.length≤lim)) (some (mput b0 (((mget b0 f_).getD [])++b1) f_))))
def m_disk_Disk_Cut_1(f_:List (ByteArray×(List UInt8)))(b0:ByteArray)(b1:Int):Option (List (ByteArray×(List UInt8))):=
 (chk (inle b1 (((mget b0 f_).getD []).length)) (some (mput b0 (List.take b1.toNat ((mget b0 f_).getD [])) f_)))
def m_disk_Disk_Remove_1(f_:List (ByteArray×(List UInt8)))(b0:ByteArray):Option (List (ByteArray×(List UInt8))):=
 (some (mdel b0 f_))
def m_call_Cdisk_change_do(x:Cdisk_change_do)(f_:List (ByteArray×(List UInt8))):Option (List (ByteArray×(List UInt8))):=
  match x with
  | .disk_add_1 a0 a1=>m_disk_add_1 f_ a0 a1
  | .disk_Disk_Cut_1 a0 a1=>m_disk_Disk_Cut_1 f_ a0 a1
  | .disk_Disk_Remove_1 a0=>m_disk_Disk_Remove_1 f_ a0
def m_disk_Disk_done(d:Odisk_Disk)(c_:Ddisk_change):Option (Odisk_Disk×Int):=
 (Option.bind (m_call_Cdisk_change_do c_.do_ d.seen) λz4=>(chk (decide (d.loose.length+1≤lim)) (some ((⟨d.room,d.safe_,z4,(d.loose++[c_])⟩:Odisk_Disk),0))))
def m_disk_Disk_Cut(d:Odisk_Disk)(name:ByteArray)(n:Int):Option (Odisk_Disk×Int):=
 (Option.bind (m_disk_Disk_there d name) λz3=>(bif (z3 != 0) then
 (chk (i64b z3) (some (d,z3)))
 else
 (bif ((decide (n<0))||(decide (((((mget name d.seen).getD []).length:Nat):Int)<n))) then
 (some (d,1))
 else
 (Option.bind (m_disk_Disk_done d (⟨(Cdisk_change_do.disk_Disk_Cut_1 name n),ByteArray.empty,[]⟩:Ddisk_change)) λz36=>(some (z36.1,z36.2))))))
def m_seglog_place_shorten(p__1:ByteArray)(p__2:Int)(f_:ByteArray)(n:Int)(dk0:Odisk_Disk):Option Odisk_Disk:=
 (Option.bind (m_disk_Disk_Read dk0 f_) λz2=>(bif (decide (n<(z2.1.length:Int))) then
 (Option.bind (m_disk_Disk_Cut dk0 f_ n) λz13=>(some z13.1))
 else
 (some dk0)))
def m_disk_Disk_Names(d:Odisk_Disk):Option (List ByteArray):=
 (chk (decide (d.seen.length≤lim)) (some (skeys d.seen)))
def m_internal_stringslite_HasPrefix(s_:ByteArray)(prefix_:ByteArray):Option Bool:=
 (chk (imp (decide ((prefix_.size:Int)≤(s_.size:Int))) (decide (prefix_.size≤s_.size))) (some ((decide ((prefix_.size:Int)≤(s_.size:Int)))&&((s_.extract 0 prefix_.size)==prefix_))))
def m_internal_stringslite_CutPrefix(s_:ByteArray)(prefix_:ByteArray):Option (ByteArray×Bool):=
 (Option.bind (m_internal_stringslite_HasPrefix s_ prefix_) λz1=>(bif (!z1) then
 (some (s_,false))
 else
 (chk (decide (prefix_.size≤s_.size)) (some ((s_.extract prefix_.size s_.size),true)))))
def m_strings_CutPrefix(s_:ByteArray)(prefix_:ByteArray):Option (ByteArray×Bool):=
 (Option.bind (m_internal_stringslite_CutPrefix s_ prefix_) λz1=>(some (z1.1,z1.2)))
def m_internal_stringslite_Cut(s_:ByteArray):Option (ByteArray×ByteArray×Bool):=
 (Option.bind (m_internal_stringslite_Index s_) λz1=>(bif (decide (0≤z1)) then
 (chk (inle z1 s_.size) (chk (inle (w64 (z1+1)) s_.size) (some ((s_.extract 0 z1.toNat),(s_.extract ((w64 (z1+1)).toNat) s_.size),true))))
 else
 (some (s_,ByteArray.empty,false))))
def m_strings_Cut(s_:ByteArray):Option (ByteArray×ByteArray×Bool):=
 (Option.bind (m_internal_stringslite_Cut s_) λz1=>(some (z1.1,z1.2.1,z1.2.2)))
def m_num_Read_b1(f22:Int→Option (Int×Int))(i23:Nat)(ei23:UInt8):Int→Option (Int×Int):=λn_20=>
 (bif ((decide ((ei23.toNat:Int)<48))||(decide (57<(ei23.toNat:Int)))) then
 (some (0,2))
 else
 (f22 (wu64 ((wu64 (10*n_20))+(wu64 (wu8 ((ei23.toNat:Int) - 48)))))))
def m_num_Read(s_:ByteArray):Option (Int×Int):=
 (chk (imp ((!(s_==ByteArray.empty))&&(decide (1<(s_.size:Int)))) (decide (0<s_.size))) (bif (((s_==ByteArray.empty)||((decide (1<(s_.size:Int)))&&((((gt s_.data.toList 0).toNat:Nat):Int)==48)))||(decide (19<(s_.size:Int)))) then
 (some (0,2))
 else
 (forI (m_num_Read_b1) (λn_20=>
 (bif (decide (9223372036854775808≤n_20)) then
 (some (0,2))
 else
 (some ((w64 n_20),0)))) 0 (s_.data.toList) 0)))
def m_seglog_place_parts_1_b1(Y:YSseglog_place_parts_1→ByteArray→Int→Int→Option YSseglog_place_parts_1)(b0v1:ByteArray)(f16:YSseglog_place_parts_1→Option YSseglog_place_parts_1)(i17:Nat)(ei17:ByteArray):YSseglog_place_parts_1→Option YSseglog_place_parts_1:=λo13=>
 (chk (decide ((b0v1++(⟨#[46]⟩:ByteArray)).size≤lim)) (Option.bind (m_strings_CutPrefix ei17 (b0v1++(⟨#[46]⟩:ByteArray))) λz24=>(chk (decide (z24.1.size≤lim)) (Option.bind (m_strings_Cut z24.1) λz27=>(chk (decide (z27.1.size≤lim)) (Option.bind (m_num_Read z27.1) λz30=>(chk (decide (z27.2.1.size≤lim)) (Option.bind (m_num_Read z27.2.1) λz33=>(bif ((((((z24.2&&z27.2.2)&&(z30.2==0))&&(z33.2==0))&&(decide (z30.1≤999999)))&&(decide (1≤z33.1)))&&(decide (z33.1≤999999))) then
 (chk (i64b z30.1) (chk (i64b z33.1) (Option.bind (Y o13 ei17 z30.1 z33.1) λz54=>(f16 z54))))
 else
 (f16 o13))))))))))
def m_seglog_place_parts_1(Y:YSseglog_place_parts_1→ByteArray→Int→Int→Option YSseglog_place_parts_1)(sY:YSseglog_place_parts_1)(b0v0:Odisk_Disk)(b0v1:ByteArray)(b0v2:Int):Option YSseglog_place_parts_1:=
 (Option.bind (m_disk_Disk_Names b0v0) λz1=>(forI (m_seglog_place_parts_1_b1 Y b0v1) (λo13=>
 (some o13)) 0 z1 sY))
def m_disk_Disk_Remove(d:Odisk_Disk)(name:ByteArray):Option (Odisk_Disk×Int):=
 (Option.bind (m_disk_Disk_there d name) λz2=>(bif (z2 != 0) then
 (chk (i64b z2) (some (d,z2)))
 else
 (Option.bind (m_disk_Disk_done d (⟨(Cdisk_change_do.disk_Disk_Remove_1 name),ByteArray.empty,[]⟩:Ddisk_change)) λz11=>(some (z11.1,z11.2)))))
def m_seglog_parts_y(pred:Int→Int→Option Bool)(s:YSseglog_place_parts_1)(f:ByteArray)(g n:Int):Option YSseglog_place_parts_1:=Option.bind (pred g n) λq=>bif q then chk (decide (s.length+1≤lim)) (some (s++[f])) else some s
def m_seglog_remove_b1(k:Odisk_Disk→Option Odisk_Disk)(i:Nat)(f:ByteArray)(d:Odisk_Disk):Option Odisk_Disk:=Option.bind (m_disk_Disk_Remove d f) λz=>k z.1
def m_seglog_place_remove(d:Odisk_Disk)(name:ByteArray)(gen:Int)(pred:Int→Int→Option Bool):Option Odisk_Disk:=Option.bind (m_seglog_place_parts_1 (m_seglog_parts_y pred) [] d name gen) λl=>forI m_seglog_remove_b1 some 0 l d
def m_seglog_Open_1(g_:Int)(a1:Int)(b0v:Int):Option Bool:=
 (some (g_ != b0v))
def m_num_Digits_j3(at_24:Int)(x26:List UInt8):Option ByteArray:=
 (chk (inle at_24 20) (some (⟨(List.drop at_24.toNat x26).toArray⟩:ByteArray)))
def m_num_Digits_b2(n:Int)(f14:Int×Int×(List UInt8)→Option ByteArray):Int×Int×(List UInt8)→Option ByteArray:=λ(at_6,u_8,x10)=>
 (bif ((at_6==20)||(decide (0<u_8))) then
 (chk (inb (w64 (at_6 - 1)) 20) (f14 ((w64 (at_6 - 1)),(wu64 (u_8.tdiv 10)),(List.set x10 ((w64 (at_6 - 1)).toNat) (b8 (wu8 (wu64 (48+(u_8.tmod 10)))))))))
 else
 (bif (decide (n<0)) then
 (chk (inb (w64 (at_6 - 1)) 20) (m_num_Digits_j3 (w64 (at_6 - 1)) (List.set x10 ((w64 (at_6 - 1)).toNat) (b8 45))))
 else
 (m_num_Digits_j3 at_6 x10)))
def m_num_Digits_j1(n:Int)(u_3:Int):Option ByteArray:=
 (loopN (m_num_Digits_b2 n) FU (20,u_3,(List.replicate 20 (b8 0))))
def m_num_Digits(n:Int):Option ByteArray:=
 (bif (decide (n<0)) then
 (m_num_Digits_j1 n (wu64 (0 - (wu64 n))))
 else
 (m_num_Digits_j1 n (wu64 n)))
def m_seglog_place_file(p__1:ByteArray)(p__2:Int)(gen:Int)(part:Int):Option ByteArray:=
 (Option.bind (m_num_Digits gen) λz2=>(chk (decide ((p__1++(⟨#[46]⟩:ByteArray)).size≤lim)) (chk (decide (z2.size≤lim)) (chk (decide (((p__1++(⟨#[46]⟩:ByteArray))++z2).size≤lim)) (Option.bind (m_num_Digits part) λz7=>(chk (decide ((((p__1++(⟨#[46]⟩:ByteArray))++z2)++(⟨#[46]⟩:ByteArray)).size≤lim)) (chk (decide (z7.size≤lim)) (some ((((p__1++(⟨#[46]⟩:ByteArray))++z2)++(⟨#[46]⟩:ByteArray))++z7)))))))))
def m_seglog_Log_scan_j1(out_3:List (List UInt8))(o8:Oseglog_Log)(o11:Odisk_Disk):Option (Oseglog_Log×Odisk_Disk×(List (List UInt8))):=
 (some ((⟨o8.place_name,o8.place_gen,o8.size,o8.last,o8.tail,(out_3.length:Int),o8.bytes⟩:Oseglog_Log),o11,out_3))
def m_seglog_Log_scan_b3(f28:(List (List UInt8))×Bool×Oseglog_Log×Odisk_Disk→Option (Oseglog_Log×Odisk_Disk×(List (List UInt8)))):(List (List UInt8))×Bool×Oseglog_Log×Odisk_Disk→Option (Oseglog_Log×Odisk_Disk×(List (List UInt8))):=λ(out_16,whole_21,o22,o25)=>
 (bif (whole_21&&(decide (o22.last<999999))) then
 (Option.bind (m_seglog_place_file o22.place_name o22.place_gen o22.place_gen (w64 (o22.last+1))) λz40=>(chk (decide (z40.size≤lim)) (Option.bind (m_disk_Disk_Read o25 z40) λz43=>(bif (!z43.2) then
 (m_seglog_Log_scan_j1 out_16 o22 o25)
 else
 (Option.bind (m_frame_All z43.1) λz60=>(Option.bind (m_seglog_place_shorten o22.place_name o22.place_gen z40 z60.2.1 o25) λz72=>(chk (decide (out_16.length+z60.1.length≤lim)) (f28 ((out_16++z60.1),(z60.2.1==(z43.1.length:Int)),(⟨o22.place_name,o22.place_gen,o22.size,(w64 (o22.last+1)),z60.2.1,o22.count,(w64 (o22.bytes+z60.2.1))⟩:Oseglog_Log),z72)))))))))
 else
 (m_seglog_Log_scan_j1 out_16 o22 o25))
def m_seglog_Log_scan(l:Oseglog_Log)(dk0:Odisk_Disk):Option (Oseglog_Log×Odisk_Disk×(List (List UInt8))):=
 (loopN (m_seglog_Log_scan_b3) FU ([],true,l,dk0))
def m_seglog_Open_2(a0:Int)(n:Int)(b0v:Oseglog_Log):Option Bool:=
 (some (decide (b0v.last<n)))
def m_disk_Disk_Sync(d:Odisk_Disk):Option Odisk_Disk:=
 (some (⟨d.room,d.seen,d.seen,[]⟩:Odisk_Disk))
def m_seglog_Open_j1(z48:Oseglog_Log×Odisk_Disk×(List (List UInt8)))(o74:Odisk_Disk):Option (Odisk_Disk×(Option Oseglog_Log)×(List (List UInt8))×Int):=
 (some (o74,(some z48.1),z48.2.2,0))
def m_seglog_Open(d:Odisk_Disk)(name:ByteArray)(size:Int):Option (Odisk_Disk×(Option Oseglog_Log)×(List (List UInt8))×Int):=
 (Option.bind (gcall (!((decide ((name.size:Int)<1))||(decide (2<(name.size:Int))))) (m_strings_Contains name)) λz6=>(bif (((decide ((name.size:Int)<1))||(decide (2<(name.size:Int))))||z6) then
 (some (d,none,[],1))
 else
 (Option.bind (m_seglog_place_holds name 0 d) λz10=>(bif (z10.2.2 != 0) then
 (some (d,none,[],z10.2.2))
 else
 (Option.bind (m_disk_Disk_Loose d) λz21=>(Option.bind (m_seglog_place_list name z10.1) λz24=>(chk (decide (z24.size≤lim)) (Option.bind (m_seglog_place_shorten name z10.1 z24 z10.2.1 d) λz27=>(Option.bind (m_seglog_place_remove z27 name z10.1 (λx y=>m_seglog_Open_1 x y z10.1)) λz37=>(Option.bind (m_seglog_Log_scan (⟨name,z10.1,(max size 16),0,0,0,0⟩:Oseglog_Log) z37) λz48=>(Option.bind (m_seglog_place_remove z48.2.1 name z10.1 (λx y=>m_seglog_Open_2 x y z48.1)) λz64=>(Option.bind (m_disk_Disk_Loose z64) λz77=>(bif (z77 != z21) then
 (Option.bind (m_disk_Disk_Sync z64) λz80=>(m_seglog_Open_j1 z48 z80))
 else
 (m_seglog_Open_j1 z48 z64))))))))))))))
def m_num_Text(b:List UInt8)(at_:Int)(most:Int):Option (ByteArray×Int×Int):=
 (Option.bind (m_num_Num b at_) λz1=>(bif (z1.2.2 != 0) then
 (some (ByteArray.empty,0,z1.2.2))
 else
 (bif (decide ((max most 0)<z1.1)) then
 (some (ByteArray.empty,0,3))
 else
 (bif (decide ((w64 ((b.length:Int) - z1.2.1))<z1.1)) then
 (some (ByteArray.empty,0,4))
 else
 (chk (inle (w64 (z1.2.1+z1.1)) b.length) (chk (decide (0≤z1.2.1)) (chk (decide (z1.2.1.toNat≤(w64 (z1.2.1+z1.1)).toNat)) (some ((⟨(List.drop z1.2.1.toNat (List.take ((w64 (z1.2.1+z1.1)).toNat) b)).toArray⟩:ByteArray),(w64 (z1.2.1+z1.1)),0)))))))))
def m_code_reader_text_j1(r_:Ocode_reader)(z2:ByteArray×Int×Int): Option (Option (Ocode_reader×ByteArray)):=
 (chk (i64b z2.2.1) (chk (decide (z2.1.size≤lim)) (some (some ((⟨r_.b,z2.2.1⟩:Ocode_reader),z2.1)))))
def m_code_reader_text(r_:Ocode_reader):Option (Option (Ocode_reader×ByteArray)):=
 (Option.bind (m_num_Text r_.b r_.at_ (r_.b.length:Int)) λz2=>(bif (z2.2.2 != 0) then
 (some none)
 else
 (m_code_reader_text_j1 r_ z2 )))
def m_code_reader_num_j1(r_:Ocode_reader)(z2:Int×Int×Int): Option (Option (Ocode_reader×Int)):=
 (chk (i64b z2.2.1) (chk (i64b z2.1) (some (some ((⟨r_.b,z2.2.1⟩:Ocode_reader),z2.1)))))
def m_code_reader_num(r_:Ocode_reader):Option (Option (Ocode_reader×Int)):=
 (Option.bind (m_num_Num r_.b r_.at_) λz2=>(bif (z2.2.2 != 0) then
 (some none)
 else
 (m_code_reader_num_j1 r_ z2 )))
def m_code_reader_int(r_:Ocode_reader):Option (Option (Ocode_reader×Int)):=
 (Option.bind (m_code_reader_num r_) λz1=>(optm z1
 (some none)
 λo3=>
 (some (some (o3.1,o3.2)))))
def m_code_reader_span_j2(x29:Span)(o31:Ocode_reader): Option (Option (Ocode_reader×Span)):=
 (some (some (o31,x29)))
def m_code_reader_span_j1(x29:Span)(o31:Ocode_reader):Option (Option (Ocode_reader×Span)):=
 (bif (decide (x29.t<x29.f)) then
 (some none)
 else
 (m_code_reader_span_j2 x29 o31 ))
def m_code_reader_span(r_:Ocode_reader):Option (Option (Ocode_reader×Span)):=
 (Option.bind (m_code_reader_int r_) λz2=>(optm z2
 (some none)
 λo4=>
 (Option.bind (m_code_reader_num o4.1) λz15=>(optm z15
 (some none)
 λo17=>
 (Option.bind (m_code_reader_num o17.1) λz35=>(optm z35
 (some none)
 λo37=>
 (m_code_reader_span_j1 (⟨o4.2,o17.2,(w64 (o17.2+o37.2))⟩:Span) o37.1)))))))
def m_code_take_api_Span_b2(f28:(List Span)×Ocode_reader→Option (Option (Ocode_reader×(List Span))))(i29:Nat):(List Span)×Ocode_reader→Option (Option (Ocode_reader×(List Span))):=λ(out_20,o25)=>
 (Option.bind (m_code_reader_span o25) λz35=>(optm z35
 (some none)
 λo37=>
 (chk (decide (out_20.length+1≤lim)) (f28 ((out_20++[o37.2]),o37.1)))))
def m_code_take_api_Span_j1(o3:Ocode_reader×Int): Option (Option (Ocode_reader×(List Span))):=
 (forU (m_code_take_api_Span_b2) (λ(out_20,o25)=>
 (some (some (o25,out_20)))) o3.2.toNat 0 ([],o3.1))
def m_code_take_api_Span(r_:Ocode_reader):Option (Option (Ocode_reader×(List Span))):=
 (Option.bind (m_code_reader_num r_) λz1=>(optm z1
 (some none)
 λo3=>
 (bif (decide ((w64 ((o3.1.b.length:Int) - o3.1.at_))<o3.2)) then
 (some none)
 else
 (m_code_take_api_Span_j1 o3 ))))
def m_code_reader_ver_j1(o4:Ocode_reader×Int)(o17:Ocode_reader×Int)(o29:Ocode_reader×(List Span))(x44:Bool)(x45:ByteArray)(o47:Ocode_reader):Option (Option (Ocode_reader×Ver)):=
 (some (some (o47,(⟨(⟨o4.2,o17.2⟩:Dot),o29.2,x44,x45⟩:Ver))))
def m_code_reader_ver(r_:Ocode_reader):Option (Option (Ocode_reader×Ver)):=
 (Option.bind (m_code_reader_int r_) λz2=>(optm z2
 (some none)
 λo4=>
 (Option.bind (m_code_reader_num o4.1) λz15=>(optm z15
 (some none)
 λo17=>
 (Option.bind (m_code_take_api_Span o17.1) λz27=>(optm z27
 (some none)
 λo29=>
 (Option.bind (m_code_reader_num o29.1) λz50=>(optm z50
 (some none)
 λo52=>
 (bif (o52.2==0) then
 (Option.bind (m_code_reader_text o52.1) λz63=>(optm z63
 (some none)
 λo65=>
 (m_code_reader_ver_j1 o4 o17 o29 false o65.2 o65.1)))
 else
 (bif (o52.2==1) then
 (m_code_reader_ver_j1 o4 o17 o29 true ByteArray.empty o52.1)
 else
 (some none)))))))))))
def m_code_take_api_Ver_b2(f28:(List Ver)×Ocode_reader→Option (Option (Ocode_reader×(List Ver))))(i29:Nat):(List Ver)×Ocode_reader→Option (Option (Ocode_reader×(List Ver))):=λ(out_20,o25)=>
 (Option.bind (m_code_reader_ver o25) λz35=>(optm z35
 (some none)
 λo37=>
 (chk (decide (out_20.length+1≤lim)) (f28 ((out_20++[o37.2]),o37.1)))))
def m_code_take_api_Ver_j1(o3:Ocode_reader×Int): Option (Option (Ocode_reader×(List Ver))):=
 (forU (m_code_take_api_Ver_b2) (λ(out_20,o25)=>
 (some (some (o25,out_20)))) o3.2.toNat 0 ([],o3.1))
def m_code_take_api_Ver(r_:Ocode_reader):Option (Option (Ocode_reader×(List Ver))):=
 (Option.bind (m_code_reader_num r_) λz1=>(optm z1
 (some none)
 λo3=>
 (bif (decide ((w64 ((o3.1.b.length:Int) - o3.1.at_))<o3.2)) then
 (some none)
 else
 (m_code_take_api_Ver_j1 o3 ))))
def m_code_reader_rec(r_:Ocode_reader):Option (Option (Ocode_reader×Rec)):=
 (Option.bind (m_code_reader_text r_) λz2=>(optm z2
 (some none)
 λo4=>
 (Option.bind (m_code_take_api_Ver o4.1) λz14=>(optm z14
 (some none)
 λo16=>
 (some (some (o16.1,(⟨o4.2,o16.2⟩:Rec))))))))
def m_code_whole_api_Rec_1(b0v0:ByteArray)(b0v1:List Ver)(b1v:Int):Option (ByteArray×(List Ver)×Int):=
 (some (ByteArray.empty,[],2))
def m_span_Right_b1(f4:Span→Option Bool)(i5:Nat)(ei5:Span):Span→Option Bool:=λx2=>
 (bif (((((((decide (ei5.s<1))||(decide (16<ei5.s)))||(decide (ei5.f<1)))||(decide (ei5.t<ei5.f)))||(decide (4611686018427387904<ei5.t)))||(decide (ei5.s<x2.s)))||((ei5.s==x2.s)&&(decide (ei5.f≤(w64 (x2.t+1)))))) then
 (some false)
 else
 (f4 ei5))
def m_span_Right(l:List Span):Option Bool:=
 (forI (m_span_Right_b1) (λx2=>
 (some (decide ((l.length:Int)≤1024)))) 0 l (⟨0,0,0⟩:Span))
def m_span_Top_j6(f3:Int→Option Int)(top_10:Int):Option Int:=
 (f3 top_10)
def m_span_Top_b5(s_:Int)(f3:Int→Option Int)(i4:Nat)(ei4:Span):Int→Option Int:=λtop_1=>
 (bif (ei4.s==s_) then
 (m_span_Top_j6 f3 (max top_1 ei4.t))
 else
 (m_span_Top_j6 f3 top_1))
def m_span_Top(l:List Span)(s_:Int):Option Int:=
 (forI (m_span_Top_b5 s_) (λtop_1=>
 (some top_1)) 0 l 0)
def m_vers_RightOne(v_:Ver):Option Bool:=
 (Option.bind (m_span_Right [(⟨v_.dot.s,v_.dot.n,v_.dot.n⟩:Span)]) λz6=>(Option.bind (gcall z6 (m_span_Right v_.past)) λz11=>(Option.bind (gcall (z6&&z11) (m_span_Top v_.past v_.dot.s)) λz22=>(some ((((z6&&z11)&&(decide (z22<v_.dot.n)))&&(decide ((v_.val.size:Int)≤256)))&&((!v_.gone)||(v_.val==ByteArray.empty)))))))
def m_vers_before(a:Dot)(b:Dot):Option Bool:=
 (some ((decide (a.s<b.s))||((a.s==b.s)&&(decide (a.n<b.n)))))
def m_span_Has_b1(d:Dot)(f2:Unit→Option Bool)(i3:Nat)(ei3:Span):Unit→Option Bool:=λ_=>
 (bif (((ei3.s==d.s)&&(decide (ei3.f≤d.n)))&&(decide (d.n≤ei3.t))) then
 (some true)
 else
 (f2 ()))
def m_span_Has(l:List Span)(d:Dot):Option Bool:=
 (forI (m_span_Has_b1 d) (λ_=>
 (some false)) 0 l ())
def m_vers_behind_b1(d:Dot)(f2:Unit→Option Bool)(i3:Nat)(ei3:Ver):Unit→Option Bool:=λ_=>
 (Option.bind (m_span_Has (ei3.past) d) λz13=>(bif z13 then
 (some true)
 else
 (f2 ())))
def m_vers_behind(d:Dot)(l:List Ver):Option Bool:=
 (forI (m_vers_behind_b1 d) (λ_=>
 (some false)) 0 l ())
def m_vers_Right_b1(l:List Ver)(f1:Unit→Option Bool)(i2:Nat)(ei2:Ver):Unit→Option Bool:=λ_=>
 (Option.bind (m_vers_RightOne ei2) λz12=>(chk (imp ((!(!z12))&&(decide (0<(i2:Int)))) (inb (w64 ((i2:Int) - 1)) l.length)) (Option.bind (gcall ((!(!z12))&&(decide (0<(i2:Int)))) (m_vers_before ((gt l ((w64 ((i2:Int) - 1)).toNat)).dot) (ei2.dot))) λz30=>(Option.bind (gcall (!((!z12)||((decide (0<(i2:Int)))&&(!z30)))) (m_vers_behind (ei2.dot) l)) λz38=>(bif (((!z12)||((decide (0<(i2:Int)))&&(!z30)))||z38) then
 (some false)
 else
 (f1 ()))))))
def m_vers_Right(l:List Ver):Option Bool:=
 (forI (m_vers_Right_b1 l) (λ_=>
 (some (decide ((l.length:Int)≤512)))) 0 l ())
def m_code_RightRec(r_:Rec):Option Bool:=
 (Option.bind (gcall ((decide (1≤(r_.key.size:Int)))&&(decide ((r_.key.size:Int)≤32))) (m_vers_Right r_.vers)) λz9=>(some (((decide (1≤(r_.key.size:Int)))&&(decide ((r_.key.size:Int)≤32)))&&z9)))
def m_code_whole_api_Rec_j1(o7:Ocode_reader×Rec): Option (Rec×Int):=
 (some (o7.2,0))
def m_code_whole_api_Rec(b:List UInt8):Option (Rec×Int):=
 (Option.bind (m_code_reader_rec (⟨b,0⟩:Ocode_reader)) λz5=>(optm z5
 (Option.bind (m_code_whole_api_Rec_1 ByteArray.empty [] 0) λz10=>(some ((⟨z10.1,z10.2.1⟩:Rec),z10.2.2)))
 λo7=>
 (Option.bind (gcall (!(o7.1.at_ != (b.length:Int))) (m_code_RightRec o7.2)) λz35=>(bif ((o7.1.at_ != (b.length:Int))||(!z35)) then
 (Option.bind (m_code_whole_api_Rec_1 o7.2.key o7.2.vers 0) λz41=>(some ((⟨z41.1,z41.2.1⟩:Rec),z41.2.2)))
 else
 (m_code_whole_api_Rec_j1 o7 )))))
def m_code_Rec(b:List UInt8):Option (Rec×Int):=
 (Option.bind (m_code_whole_api_Rec b) λz2=>(some (z2.1,z2.2)))
def m_store_Store_lay(s_:Ostore_Store)(r_:Rec)(b:List UInt8):Option Ostore_Store:=
 (bif (decide (0<(r_.vers.length:Int))) then
 (some (⟨s_.log,(mput r_.key b (mdel r_.key s_.keys))⟩:Ostore_Store))
 else
 (some (⟨s_.log,(mdel r_.key s_.keys)⟩:Ostore_Store)))
def m_store_Open_b1(z1:Odisk_Disk×(Option Oseglog_Log)×(List (List UInt8))×Int)(f31:Ostore_Store→Option (Odisk_Disk×(Option Ostore_Store)×Int))(i32:Nat)(ei32:(List UInt8)):Ostore_Store→Option (Odisk_Disk×(Option Ostore_Store)×Int):=λo28=>
 (Option.bind (m_code_Rec ei32) λz41=>(bif (z41.2 != 0) then
 (some (z1.1,none,z41.2))
 else
 (Option.bind (m_store_Store_lay o28 z41.1 ei32) λz53=>(f31 z53))))
def m_store_Open(d:Odisk_Disk)(name:ByteArray)(size:Int):Option (Odisk_Disk×(Option Ostore_Store)×Int):=
 (Option.bind (m_seglog_Open d name size) λz1=>(bif (z1.2.2.2 != 0) then
 (some (z1.1,none,z1.2.2.2))
 else
 (Option.bind z1.2.1 λz21=>(forI (m_store_Open_b1 z1) (λo28=>
 (some (z1.1,(some o28),0))) 0 z1.2.2.1 (⟨z21,([]:List (ByteArray×(List UInt8)))⟩:Ostore_Store)))))
def m_node_Open_j4(f_37:Int)(f45:Int×(List (Int×Ostore_Store))×Odisk_Disk→Option (Odisk_Disk×(Option Onode_Node)×Int))(m52:List (Int×Ostore_Store))(o55:Odisk_Disk):Option (Odisk_Disk×(Option Onode_Node)×Int):=
 (f45 ((w64 (f_37+1)),m52,o55))
def m_node_Open_b3(self:Adr)(size:Int)(life:Int)(z31:Ostore_Store)(f45:Int×(List (Int×Ostore_Store))×Odisk_Disk→Option (Odisk_Disk×(Option Onode_Node)×Int)):Int×(List (Int×Ostore_Store))×Odisk_Disk→Option (Odisk_Disk×(Option Onode_Node)×Int):=λ(f_37,m39,o42)=>
 (bif (decide (f_37≤8)) then
 (bif (f_37==self.node) then
 (m_node_Open_j4 f_37 f45 m39 o42)
 else
 (Option.bind (m_num_Digits f_37) λz60=>(chk (decide (z60.size≤lim)) (chk (decide (((⟨#[104]⟩:ByteArray)++z60).size≤lim)) (Option.bind (m_store_Open o42 ((⟨#[104]⟩:ByteArray)++z60) size) λz64=>(Option.bind z64.2.1 λz76=>(chk (!((mget f_37 m39).isSome)) (bif (z64.2.2 != 0) then
 (some (z64.1,none,z64.2.2))
 else
 (m_node_Open_j4 f_37 f45 (mput f_37 z76 m39) z64.1)))))))))
 else
 (some (o42,(some (⟨life,self.site,self.node,z31,m39,(mput 17 38 (mput 9 37 (mput 8 36 (mput 6 35 (mput 4 34 (mput 2 33 (mput 1 32 ([]:List (Int×Nat)))))))))⟩:Onode_Node)),0)))
def m_node_Open(d:Odisk_Disk)(self:Adr)(size:Int)(life:Int):Option (Odisk_Disk×(Option Onode_Node)×Int):=
 (bif (((((decide (life<0))||(decide (self.site<1)))||(decide (16<self.site)))||(decide (self.node<1)))||(decide (8<self.node))) then
 (some (d,none,1))
 else
 (Option.bind (m_store_Open d (⟨#[100]⟩:ByteArray) size) λz15=>(bif (z15.2.2 != 0) then
 (some (z15.1,none,z15.2.2))
 else
 (Option.bind z15.2.1 λz31=>(loopN (m_node_Open_b3 self size life z31) FU (1,([]:List (Int×Ostore_Store)),z15.1))))))
def m_firthlaw15_one(key:ByteArray)(s_:Int)(n:Int):Option Rec:=
 (some (⟨key,[(⟨(⟨s_,n⟩:Dot),[],false,(⟨#[118]⟩:ByteArray)⟩:Ver)]⟩:Rec))
def m_firthlaw15_put(to_:Int)(r_:List Rec):Option Dapi_Msg:=
 (Option.bind (m_firthlaw15_at 0) λz2=>(Option.bind (m_firthlaw15_at to_) λz4=>(chk (i64b z2.site) (chk (i64b z2.node) (chk (i64b z4.site) (chk (i64b z4.node) (some (⟨1,(⟨z2.site,z2.node⟩:Adr),(⟨z4.site,z4.node⟩:Adr),5,0,0,0,ByteArray.empty,r_,[],[],[],[]⟩:Dapi_Msg))))))))
def m_code_place(a:Adr):Option Bool:=
 (some ((((decide (1≤a.site))&&(decide (a.site≤16)))&&(decide (0≤a.node)))&&(decide (a.node≤8))))
def m_code_all_api_Rec_b1(f1:Unit→Option Bool)(i2:Nat)(ei2:Rec):Unit→Option Bool:=λ_=>
 (Option.bind (m_code_RightRec ei2) λz12=>(bif (!z12) then
 (some false)
 else
 (f1 ())))
def m_code_all_api_Rec(l:List Rec)(most:Int):Option Bool:=
 (forI (m_code_all_api_Rec_b1) (λ_=>
 (some (decide ((l.length:Int)≤most)))) 0 l ())
def m_code_between_int64(lo:Int)(hi:Int):Option (Int×Int):=
 (some (lo,hi))
def m_code_between_int(lo:Int)(hi:Int):Option (Int×Int):=
 (some (lo,hi))
def m_code_between_int64_1(n:Int)(b0v:Int)(b1v:Int):Option Bool:=
 (some ((decide (b0v≤n))&&(decide (n≤b1v))))
def m_code_all_int64_b1(ok0v:Int)(ok1v:Int)(f3:Unit→Option Bool)(i4:Nat)(ei4:Int):Unit→Option Bool:=λ_=>
 (Option.bind (m_code_between_int64_1 ei4 ok0v ok1v) λz10=>(bif (!z10) then
 (some false)
 else
 (f3 ())))
def m_code_all_int64(l:List Int)(most:Int)(ok0v:Int)(ok1v:Int):Option Bool:=
 (forI (m_code_all_int64_b1 ok0v ok1v) (λ_=>
 (some (decide ((l.length:Int)≤most)))) 0 l ())
def m_code_between_int_1(n:Int)(b0v:Int)(b1v:Int):Option Bool:=
 (some ((decide (b0v≤n))&&(decide (n≤b1v))))
def m_code_all_int_b1(ok0v:Int)(ok1v:Int)(f3:Unit→Option Bool)(i4:Nat)(ei4:Int):Unit→Option Bool:=λ_=>
 (Option.bind (m_code_between_int_1 ei4 ok0v ok1v) λz10=>(bif (!z10) then
 (some false)
 else
 (f3 ())))
def m_code_all_int(l:List Int)(most:Int)(ok0v:Int)(ok1v:Int):Option Bool:=
 (forI (m_code_all_int_b1 ok0v ok1v) (λ_=>
 (some (decide ((l.length:Int)≤most)))) 0 l ())
def m_code_RightMsg(m:Dapi_Msg):Option Bool:=
 (Option.bind (gcall ((decide (1≤m.kind))&&(decide (m.kind≤17))) (m_code_place m.from_)) λz9=>(Option.bind (gcall (((decide (1≤m.kind))&&(decide (m.kind≤17)))&&z9) (m_code_place m.to_)) λz14=>(Option.bind (gcall (((((((((((decide (1≤m.kind))&&(decide (m.kind≤17)))&&z9)&&z14)&&(decide (0≤m.id)))&&(decide (0≤m.n)))&&(decide (0≤m.for_)))&&(decide (m.for_≤8)))&&(decide (0≤m.code)))&&(decide (m.code≤999)))&&(decide ((m.key.size:Int)≤32))) (m_code_all_api_Rec m.recs (m.recs.length:Int))) λz44=>(bif ((((((((((((decide (1≤m.kind))&&(decide (m.kind≤17)))&&z9)&&z14)&&(decide (0≤m.id)))&&(decide (0≤m.n)))&&(decide (0≤m.for_)))&&(decide (m.for_≤8)))&&(decide (0≤m.code)))&&(decide (m.code≤999)))&&(decide ((m.key.size:Int)≤32)))&&z44) then
 (Option.bind (m_code_between_int64 0 4611686018427387904) λz49=>(Option.bind (m_code_all_int64 m.vec 16 z49.1 z49.2) λz59=>(bif z59 then
 (Option.bind (m_code_between_int 0 15) λz68=>(Option.bind (m_code_all_int m.path 2 z68.1 z68.2) λz78=>(bif (z78&&(decide ((m.hashes.length:Int)≤16))) then
 (Option.bind (m_code_between_int 1 16) λz91=>(Option.bind (m_code_all_int m.route 16 z91.1 z91.2) λz101=>(some z101)))
 else
 (some false))))
 else
 (some false))))
 else
 (some false)))))
def m_store_Store_Get(s_:Ostore_Store)(key:ByteArray):Option (List Ver):=
 (Option.bind (m_code_Rec ((mget key s_.keys).getD [])) λz9=>(some z9.1.vers))
def m_vers_clone_api_Span(l:List Span):Option (List Span):=
 (chk (decide (0+l.length≤lim)) (some l))
def m_vers_Merge_1(v_:Ver)(b0v:List Ver)(b1v:List Ver)(b2v:List Ver):Option (List Ver):=
 (Option.bind (m_vers_behind v_.dot b0v) λz2=>(Option.bind (gcall (!z2) (m_vers_behind v_.dot b1v)) λz8=>(bif ((!z2)&&(!z8)) then
 (Option.bind (m_vers_clone_api_Span v_.past) λz12=>(chk (decide (b2v.length+1≤lim)) (some (b2v++[(⟨(⟨v_.dot.s,v_.dot.n⟩:Dot),z12,v_.gone,v_.val⟩:Ver)]))))
 else
 (some b2v))))
def m_vers_same_b1(b:Ver)(f21:Unit→Option Bool)(i22:Nat)(ei22:Span):Unit→Option Bool:=λ_=>
 (chk (decide (i22<b.past.length)) (bif (ei22 != (gt b.past i22)) then
 (some false)
 else
 (f21 ())))
def m_vers_same(a:Ver)(b:Ver):Option Bool:=
 (bif ((((a.dot != b.dot)||(a.gone != b.gone))||(a.val != b.val))||((a.past.length:Int) != (b.past.length:Int))) then
 (some false)
 else
 (forI (m_vers_same_b1 b) (λ_=>
 (some true)) 0 a.past ()))
def m_vers_Merge_b1(a:List Ver)(b:List Ver)(f24:Bool×Int×Int×(List Ver)→Option ((List Ver)×Int)):Bool×Int×Int×(List Ver)→Option ((List Ver)×Int):=λ(twin_14,i_15,k_17,x19)=>
 (bif ((decide (i_15<(a.length:Int)))||(decide (k_17<(b.length:Int)))) then
 (chk (imp ((!(k_17==(b.length:Int)))&&(decide (i_15<(a.length:Int)))) (inb i_15 a.length)) (chk (imp ((!(k_17==(b.length:Int)))&&(decide (i_15<(a.length:Int)))) (inb k_17 b.length)) (Option.bind (gcall ((!(k_17==(b.length:Int)))&&(decide (i_15<(a.length:Int)))) (m_vers_before ((gt a i_15.toNat).dot) ((gt b k_17.toNat).dot))) λz57=>(bif ((k_17==(b.length:Int))||((decide (i_15<(a.length:Int)))&&z57)) then
 (chk (inb i_15 a.length) (Option.bind (m_vers_Merge_1 (gt a i_15.toNat) a b x19) λz62=>(f24 (twin_14,(w64 (i_15+1)),k_17,z62))))
 else
 (chk (imp (decide (i_15<(a.length:Int))) (inb i_15 a.length)) (chk (imp (decide (i_15<(a.length:Int))) (inb k_17 b.length)) (bif ((decide (i_15<(a.length:Int)))&&((gt a i_15.toNat).dot==(gt b k_17.toNat).dot)) then
 (chk (imp (!twin_14) (inb i_15 a.length)) (chk (imp (!twin_14) (inb k_17 b.length)) (Option.bind (gcall (!twin_14) (m_vers_same (gt a i_15.toNat) (gt b k_17.toNat))) λz97=>(f24 ((twin_14||(!z97)),(w64 (i_15+1)),k_17,x19)))))
 else
 (chk (inb k_17 b.length) (Option.bind (m_vers_Merge_1 (gt b k_17.toNat) a b x19) λz101=>(f24 (twin_14,i_15,(w64 (k_17+1)),z101)))))))))))
 else
 (bif twin_14 then
 (some ([],50))
 else
 (bif (decide (512<(x19.length:Int))) then
 (some ([],3))
 else
 (some (x19,0)))))
def m_vers_Merge(a:List Ver)(b:List Ver):Option ((List Ver)×Int):=
 (Option.bind (m_vers_Right a) λz3=>(Option.bind (gcall (!(!z3)) (m_vers_Right b)) λz7=>(bif ((!z3)||(!z7)) then
 (some ([],1))
 else
 (loopN (m_vers_Merge_b1 a b) FU (false,0,0,[])))))
def m_vers_Same_b1(a:List Ver)(b:List Ver)(f1:Unit→Option Bool)(i2:Nat):Unit→Option Bool:=λ_=>
 (chk (decide (i2<a.length)) (chk (decide (i2<b.length)) (Option.bind (m_vers_same (gt a i2) (gt b i2)) λz16=>(bif (!z16) then
 (some false)
 else
 (f1 ())))))
def m_vers_Same(a:List Ver)(b:List Ver):Option Bool:=
 (forU (m_vers_Same_b1 a b) (λ_=>
 (some ((a.length:Int)==(b.length:Int)))) ((min (a.length:Int) (b.length:Int)).toNat) 0 ())
def m_num_PutNum_b1(f7:(List UInt8)×Int→Option (List UInt8)):(List UInt8)×Int→Option (List UInt8):=λ(b_1,u_6)=>
 (bif (decide (127<u_6)) then
 (chk (u8b (ior .u8 (wu8 u_6) 128)) (chk (decide (b_1.length+1≤lim)) (f7 ((b_1++[(b8 (ior .u8 (wu8 u_6) 128))]),(ishr .u64 u_6 7)))))
 else
 (chk (decide (b_1.length+1≤lim)) (some (b_1++[(b8 (wu8 u_6))]))))
def m_num_PutNum(n:Int):Option (List UInt8):=
 (loopN (m_num_PutNum_b1) FU ([],(wu64 (max n 0))))
def m_num_PutText(s_:ByteArray):Option (List UInt8):=
 (Option.bind (m_num_PutNum (s_.size:Int)) λz1=>(chk (decide (z1.length+s_.size≤lim)) (some (z1++s_.data.toList))))
def m_code_writer_text(w_:Ocode_writer)(s_:ByteArray):Option Ocode_writer:=
 (Option.bind (m_num_PutText s_) λz2=>(chk (decide (w_.b.length+z2.length≤lim)) (some (⟨(w_.b++z2)⟩:Ocode_writer))))
def m_code_writer_num(w_:Ocode_writer)(n:Int):Option Ocode_writer:=
 (Option.bind (m_num_PutNum n) λz2=>(chk (decide (w_.b.length+z2.length≤lim)) (some (⟨(w_.b++z2)⟩:Ocode_writer))))
def m_code_writer_int(w_:Ocode_writer)(n:Int):Option Ocode_writer:=
 (Option.bind (m_code_writer_num w_ n) λz1=>(some z1))
def m_code_writer_span(w_:Ocode_writer)(x_:Span):Option Ocode_writer:=
 (Option.bind (m_code_writer_int w_ x_.s) λz2=>(Option.bind (m_code_writer_num z2 x_.f) λz10=>(Option.bind (m_code_writer_num z10 (w64 (x_.t - x_.f))) λz18=>(some z18))))
def m_code_put_api_Span_b1(f14:Ocode_writer→Option Ocode_writer)(i15:Nat)(ei15:Span):Ocode_writer→Option Ocode_writer:=λo11=>
 (Option.bind (m_code_writer_span o11 ei15) λz22=>(f14 z22))
def m_code_put_api_Span(w_:Ocode_writer)(l:List Span):Option Ocode_writer:=
 (Option.bind (m_code_writer_int w_ (l.length:Int)) λz1=>(forI (m_code_put_api_Span_b1) (λo11=>
 (some o11)) 0 l z1))
def m_code_writer_ver(w_:Ocode_writer)(v_:Ver):Option Ocode_writer:=
 (Option.bind (m_code_writer_int w_ v_.dot.s) λz2=>(Option.bind (m_code_writer_num z2 v_.dot.n) λz10=>(Option.bind (m_code_put_api_Span z10 v_.past) λz18=>(bif v_.gone then
 (Option.bind (m_code_writer_int z18 1) λz27=>(some z27))
 else
 (Option.bind (m_code_writer_int z18 0) λz35=>(Option.bind (m_code_writer_text z35 v_.val) λz43=>(some z43)))))))
def m_code_put_api_Ver_b1(f14:Ocode_writer→Option Ocode_writer)(i15:Nat)(ei15:Ver):Ocode_writer→Option Ocode_writer:=λo11=>
 (Option.bind (m_code_writer_ver o11 ei15) λz25=>(f14 z25))
def m_code_put_api_Ver(w_:Ocode_writer)(l:List Ver):Option Ocode_writer:=
 (Option.bind (m_code_writer_int w_ (l.length:Int)) λz1=>(forI (m_code_put_api_Ver_b1) (λo11=>
 (some o11)) 0 l z1))
def m_code_writer_rec(w_:Ocode_writer)(r_:Rec):Option Ocode_writer:=
 (Option.bind (m_code_writer_text w_ r_.key) λz2=>(Option.bind (m_code_put_api_Ver z2 r_.vers) λz10=>(some z10)))
def m_code_PutRec(r_:Rec):Option ((List UInt8)×Int):=
 (Option.bind (m_code_RightRec r_) λz2=>(bif (!z2) then
 (some ([],1))
 else
 (Option.bind (m_code_writer_rec (⟨[]⟩:Ocode_writer) r_) λz7=>(some (z7.b,0)))))
def m_frame_Put_b1(z13:Int)(f20:List UInt8→Option ((List UInt8)×Int))(i21:Nat):List UInt8→Option ((List UInt8)×Int):=λout_15=>
 (chk (decide (0≤(w64 (8*(i21:Int))))) (chk (decide (out_15.length+1≤lim)) (f20 (out_15++[(b8 (wu8 (ishr .u32 z13 (w64 (8*(i21:Int))))))]))))
def m_frame_Put(b:List UInt8):Option ((List UInt8)×Int):=
 (bif (decide (1048576<(b.length:Int))) then
 (some ([],3))
 else
 (Option.bind (m_num_PutNum (b.length:Int)) λz2=>(Option.bind (m_frame_Sum ([z2,b]:List (List UInt8))) λz13=>(forU (m_frame_Put_b1 z13) (λout_15=>
 (chk (decide (out_15.length+b.length≤lim)) (some ((out_15++b),0)))) 4 0 z2))))
def m_disk_Disk_Used_b1:Int→(ByteArray×(List UInt8))→Option Int:=λn_12 en23=>
 (some (w64 (n_12+(en23.2.length:Int))))
def m_disk_Disk_Used(d:Odisk_Disk):Option Int:=
 (Option.bind (fldO (m_disk_Disk_Used_b1) 0 d.seen) (λn_12=>
 (some n_12)))
def m_disk_add(name:ByteArray)(b:List UInt8):Option Cdisk_change_do:=
 (some (Cdisk_change_do.disk_add_1 name b))
def m_disk_Disk_Append(d:Odisk_Disk)(name:ByteArray)(b:List UInt8):Option (Odisk_Disk×Int):=
 (Option.bind (m_disk_right [name]) λz3=>(bif (!z3) then
 (some (d,70))
 else
 (Option.bind (m_disk_Disk_Used d) λz7=>(bif (decide ((w64 (d.room - z7))<(b.length:Int))) then
 (some (d,72))
 else
 (Option.bind (m_slices_Clone_byte_byte b) λz11=>(Option.bind (m_disk_add name z11) λz26=>(Option.bind (m_disk_Disk_done d (⟨z26,name,z11⟩:Ddisk_change)) λz36=>(some (z36.1,z36.2)))))))))
def m_seglog_Log_Append_j2(l:Oseglog_Log)(part_15:Int)(tail_17:Int)(f_40:List UInt8)(e_45:Int)(o47:Odisk_Disk):Option (Oseglog_Log×Odisk_Disk×Int):=
 (bif (e_45 != 0) then
 (some (l,o47,e_45))
 else
 (some ((⟨l.place_name,l.place_gen,l.size,part_15,(w64 (tail_17+(f_40.length:Int))),(w64 (l.count+1)),(w64 (l.bytes+(f_40.length:Int)))⟩:Oseglog_Log),o47,0)))
def m_seglog_Log_Append_j1(l:Oseglog_Log)(dk0:Odisk_Disk)(z1:(List UInt8)×Int)(part_15:Int)(tail_17:Int):Option (Oseglog_Log×Odisk_Disk×Int):=
 (bif (decide (999999<part_15)) then
 (some (l,dk0,72))
 else
 (Option.bind (m_seglog_place_file l.place_name l.place_gen l.place_gen part_15) λz57=>(chk (decide (z57.size≤lim)) (Option.bind (m_disk_Disk_Append dk0 z57 z1.1) λz60=>(m_seglog_Log_Append_j2 l part_15 tail_17 z1.1 z60.2 z60.1)))))
def m_seglog_Log_Append(l:Oseglog_Log)(b:List UInt8)(dk0:Odisk_Disk):Option (Oseglog_Log×Odisk_Disk×Int):=
 (Option.bind (m_frame_Put b) λz1=>(bif (z1.2 != 0) then
 (some (l,dk0,z1.2))
 else
 (bif ((l.last==0)||((decide (0<l.tail))&&(decide ((w64 (l.size - l.tail))<(z1.1.length:Int))))) then
 (m_seglog_Log_Append_j1 l dk0 z1 (w64 (l.last+1)) 0)
 else
 (m_seglog_Log_Append_j1 l dk0 z1 l.last l.tail))))
def m_seglog_Log_Sync(l:Oseglog_Log)(dk0:Odisk_Disk):Option Odisk_Disk:=
 (Option.bind (m_disk_Disk_Sync dk0) λz2=>(some z2))
def m_store_Store_Put_j1(r_:Rec)(b_15:List UInt8)(e_20:Int)(o22:Ostore_Store)(o25:Odisk_Disk):Option (Ostore_Store×Odisk_Disk×Int):=
 (bif (e_20 != 0) then
 (some (o22,o25,e_20))
 else
 (Option.bind (m_seglog_Log_Sync o22.log o25) λz54=>(Option.bind (m_store_Store_lay o22 r_ b_15) λz63=>(some (z63,z54,0)))))
def m_store_Store_Put(s_:Ostore_Store)(r_:Rec)(dk0:Odisk_Disk):Option (Ostore_Store×Odisk_Disk×Int):=
 (Option.bind (m_code_PutRec r_) λz2=>(bif (z2.2==0) then
 (Option.bind (m_seglog_Log_Append s_.log z2.1 dk0) λz35=>(m_store_Store_Put_j1 r_ z2.1 z35.2.2 (⟨z35.1,s_.keys⟩:Ostore_Store) z35.2.1))
 else
 (m_store_Store_Put_j1 r_ z2.1 z2.2 s_ dk0)))
def m_node_lay_j5(f9:Ostore_Store×Odisk_Disk→Option (Ostore_Store×Odisk_Disk×Int))(e_43:Int)(o45:Ostore_Store)(o48:Odisk_Disk):Option (Ostore_Store×Odisk_Disk×Int):=
 (bif (e_43 != 0) then
 (some (o45,o48,e_43))
 else
 (f9 (o45,o48)))
def m_node_lay_b4(f9:Ostore_Store×Odisk_Disk→Option (Ostore_Store×Odisk_Disk×Int))(i10:Nat)(ei10:Rec):Ostore_Store×Odisk_Disk→Option (Ostore_Store×Odisk_Disk×Int):=λ(o3,o6)=>
 (Option.bind (m_store_Store_Get o3 (ei10.key)) λz20=>(Option.bind (m_vers_Merge z20 (ei10.vers)) λz30=>(Option.bind (gcall (z30.2==0) (m_vers_Same z30.1 z20)) λz54=>(bif ((z30.2==0)&&(!z54)) then
 (Option.bind (m_store_Store_Put o3 (⟨ei10.key,z30.1⟩:Rec) o6) λz63=>(m_node_lay_j5 f9 z63.2.2 z63.1 z63.2.1))
 else
 (m_node_lay_j5 f9 z30.2 o3 o6)))))
def m_node_lay(s_:Ostore_Store)(list:List Rec)(dk0:Odisk_Disk):Option (Ostore_Store×Odisk_Disk×Int):=
 (forI (m_node_lay_b4) (λ(o3,o6)=>
 (some (o3,o6,0))) 0 list (s_,dk0))
def m_node_Node_Handle_1(a:Dapi_Msg)(b0v:Onode_Node)(b1:Dapi_Msg)(b2v:List Dapi_Msg):Option (List Dapi_Msg):=
 (chk (decide (b2v.length+1≤lim)) (some (b2v++[(⟨a.kind,(⟨b0v.self_site,b0v.self_node⟩:Adr),(⟨b1.from_.site,b1.from_.node⟩:Adr),b1.id,a.n,a.for_,a.code,a.key,a.recs,a.vec,a.path,a.hashes,a.route⟩:Dapi_Msg)])))
def m_node_own_b5(f27:List Ver→Option (List Rec))(i28:Nat)(ei28:Ver):List Ver→Option (List Rec):=λx22=>
 (chk (decide (0+(ei28.past).length≤lim)) (chk (decide (x22.length+1≤lim)) (f27 (x22++[ei28]))))
def m_node_own_b4(f8:List Rec→Option (List Rec))(i9:Nat)(ei9:Rec):List Rec→Option (List Rec):=λout_3=>
 (forI (m_node_own_b5) (λx22=>
 (chk (decide (out_3.length+1≤lim)) (f8 (out_3++[(⟨ei9.key,x22⟩:Rec)])))) 0 (ei9.vers) [])
def m_node_own(l:List Rec):Option (List Rec):=
 (forI (m_node_own_b4) (λout_3=>
 (some out_3)) 0 l [])
def m_node_Node_put(n:Onode_Node)(m:Dapi_Msg)(answer1:Dapi_Msg)(answer2v:List Dapi_Msg)(dk0:Odisk_Disk):Option (Onode_Node×(List Dapi_Msg)×Odisk_Disk):=
 (bif ((m.for_ != 0)&&(m.for_ != n.self_node)) then
 (Option.bind (mget m.for_ n.hints) λo13=>(Option.bind (m_node_lay o13 m.recs dk0) λz25=>(some ((⟨n.life,n.self_site,n.self_node,n.own,(mput m.for_ z25.1 n.hints),n.does⟩:Onode_Node),answer2v,z25.2.1))))
 else
 (Option.bind (m_node_lay n.own m.recs dk0) λz41=>(bif (z41.2.2 != 0) then
 (Option.bind (m_node_Node_Handle_1 (⟨3,(⟨0,0⟩:Adr),(⟨0,0⟩:Adr),0,0,0,z41.2.2,ByteArray.empty,[],[],[],[],[]⟩:Dapi_Msg) (⟨n.life,n.self_site,n.self_node,z41.1,n.hints,n.does⟩:Onode_Node) answer1 answer2v) λz54=>(some ((⟨n.life,n.self_site,n.self_node,z41.1,n.hints,n.does⟩:Onode_Node),z54,z41.2.1)))
 else
 (Option.bind (m_node_own m.recs) λz67=>(Option.bind (m_node_Node_Handle_1 (⟨2,(⟨0,0⟩:Adr),(⟨0,0⟩:Adr),0,(⟨n.life,n.self_site,n.self_node,z41.1,n.hints,n.does⟩:Onode_Node).life,0,0,ByteArray.empty,z67,[],[],[],[]⟩:Dapi_Msg) (⟨n.life,n.self_site,n.self_node,z41.1,n.hints,n.does⟩:Onode_Node) answer1 answer2v) λz83=>(some ((⟨n.life,n.self_site,n.self_node,z41.1,n.hints,n.does⟩:Onode_Node),z83,z41.2.1)))))))
def m_vers_Lacks(a:List Ver)(b:List Ver):Option Bool:=
 (Option.bind (m_vers_Merge a b) λz1=>(Option.bind (gcall (z1.2==0) (m_vers_Same z1.1 a)) λz15=>(some ((z1.2==0)&&(!z15)))))
def m_node_Node_done_j5(f28:Ostore_Store×Odisk_Disk→Option (Onode_Node×Odisk_Disk))(o37:Ostore_Store)(o40:Odisk_Disk):Option (Onode_Node×Odisk_Disk):=
 (f28 (o37,o40))
def m_node_Node_done_b4(f28:Ostore_Store×Odisk_Disk→Option (Onode_Node×Odisk_Disk))(i29:Nat)(ei29:Rec):Ostore_Store×Odisk_Disk→Option (Onode_Node×Odisk_Disk):=λ(o22,o25)=>
 (Option.bind (m_store_Store_Get o22 (ei29.key)) λz47=>(Option.bind (gcall (decide (0<(z47.length:Int))) (m_vers_Lacks (ei29.vers) z47)) λz61=>(bif ((decide (0<(z47.length:Int)))&&(!z61)) then
 (Option.bind (m_store_Store_Put o22 (⟨ei29.key,[]⟩:Rec) o25) λz65=>(m_node_Node_done_j5 f28 z65.1 z65.2.1))
 else
 (m_node_Node_done_j5 f28 o22 o25))))
def m_node_Node_done(n:Onode_Node)(m:Dapi_Msg)(a21:Dapi_Msg)(a22v:List Dapi_Msg)(dk0:Odisk_Disk):Option (Onode_Node×Odisk_Disk):=
 (optm (mget m.from_.node n.hints)
 ((some (n,dk0)))
 λo4=>
 (forI (m_node_Node_done_b4) (λ(o22,o25)=>
 (some ((⟨n.life,n.self_site,n.self_node,n.own,(mput m.from_.node o22 n.hints),n.does⟩:Onode_Node),o25))) 0 m.recs (o4,dk0)))
def m_node_Node_Handle_j1(x28:List Dapi_Msg)(o33:Onode_Node)(o36:Odisk_Disk):Option (Onode_Node×Odisk_Disk×(List Dapi_Msg)):=
 (some (o33,o36,x28))
def m_node_Node_Handle(n:Onode_Node)(m:Dapi_Msg)(dk0:Odisk_Disk):Option (Onode_Node×Odisk_Disk×(List Dapi_Msg)):=
 (Option.bind (m_code_RightMsg m) λz4=>(bif (((!z4)||(m.to_ != (⟨n.self_site,n.self_node⟩:Adr)))||(m.from_.site != n.self_site)) then
 (some (n,dk0,[]))
 else
 (optm (mget m.kind n.does)
 ((m_node_Node_Handle_j1 [] n dk0))
 λa42=>
 (bif (a42==32) then
 (Option.bind (m_node_Node_put n m m [] dk0) λz50=>(m_node_Node_Handle_j1 z50.2.1 z50.1 z50.2.2))
 else
 (bif (a42==33) then
 (Option.bind (m_node_Node_done n m m [] dk0) λz67=>(m_node_Node_Handle_j1 [] z67.1 z67.2))
 else
 none)))))
def m_store_Store_Keys(s_:Ostore_Store):Option (List ByteArray):=
 (chk (decide (s_.keys.length≤lim)) (some (skeys s_.keys)))
def m_store_Store_Recs_b1(s_:Ostore_Store)(f18:List Rec→Option (List Rec))(i19:Nat)(ei19:ByteArray):List Rec→Option (List Rec):=λout_13=>
 (Option.bind (m_store_Store_Get s_ ei19) λz25=>(chk (decide (out_13.length+1≤lim)) (f18 (out_13++[(⟨ei19,z25⟩:Rec)]))))
def m_store_Store_Recs(s_:Ostore_Store):Option (List Rec):=
 (Option.bind (m_store_Store_Keys s_) λz1=>(forI (m_store_Store_Recs_b1 s_) (λout_13=>
 (some out_13)) 0 z1 []))
def m_node_Node_Hints(n:Onode_Node)(f_:Int):Option (List Rec):=
 (optm (mget f_ n.hints)
 ((some []))
 λo2=>
 (Option.bind (m_store_Store_Recs o2) λz18=>(some z18)))
def m_node_Node_Tick_b4(n:Onode_Node)(f_8:Int)(f32:List Dapi_Msg→Option (List Dapi_Msg))(i33:Nat)(ei33:Rec):List Dapi_Msg→Option (List Dapi_Msg):=λout_27=>
 (chk (decide (out_27.length+1≤lim)) (f32 (out_27++[(⟨1,(⟨n.self_site,n.self_node⟩:Adr),(⟨n.self_site,f_8⟩:Adr),0,0,0,0,ByteArray.empty,[ei33],[],[],[],[]⟩:Dapi_Msg)])))
def m_node_Node_Tick_b3(n:Onode_Node)(f10:(List Dapi_Msg)×Int→Option (List Dapi_Msg)):(List Dapi_Msg)×Int→Option (List Dapi_Msg):=λ(out_3,f_8)=>
 (bif (decide (f_8≤8)) then
 (Option.bind (m_node_Node_Hints n f_8) λz15=>(forI (m_node_Node_Tick_b4 n f_8) (λout_27=>
 (f10 (out_27,(w64 (f_8+1))))) 0 z15 out_3))
 else
 (some out_3))
def m_node_Node_Tick(n:Onode_Node):Option (List Dapi_Msg):=
 (loopN (m_node_Node_Tick_b3 n) FU ([],1))
def m_num_Hash_b1(f3:Int→Option Int)(i4:Nat)(ei4:UInt8):Int→Option Int:=λh_1=>
 (f3 (wu64 ((ixor .u64 h_1 (wu64 (ei4.toNat:Int)))*1099511628211)))
def m_num_Hash(b:List UInt8):Option Int:=
 (forI (m_num_Hash_b1) (λh_1=>
 (some (ixor .u64 (wu64 ((ixor .u64 h_1 (ishr .u64 h_1 33))*18397679294719823053)) (ishr .u64 (wu64 ((ixor .u64 h_1 (ishr .u64 h_1 33))*18397679294719823053)) 33)))) 0 b 14695981039346656037)
def m_ring_Part(key:ByteArray):Option Int:=
 (Option.bind (m_num_Hash (key.data.toList)) λz7=>(some (w64 (z7.tmod 8))))
def m_node_Node_Recs_j5(f18:List Rec→Option (List Rec))(out_25:List Rec):Option (List Rec):=
 (f18 out_25)
def m_node_Node_Recs_b4(p_:Int)(f18:List Rec→Option (List Rec))(i19:Nat)(ei19:Rec):List Rec→Option (List Rec):=λout_13=>
 (Option.bind (gcall (!(decide (p_<0))) (m_ring_Part (ei19.key))) λz37=>(bif ((decide (p_<0))||(z37==p_)) then
 (chk (decide (out_13.length+1≤lim)) (m_node_Node_Recs_j5 f18 (out_13++[ei19])))
 else
 (m_node_Node_Recs_j5 f18 out_13)))
def m_node_Node_Recs(n:Onode_Node)(p_:Int):Option (List Rec):=
 (Option.bind (m_store_Store_Recs n.own) λz2=>(forI (m_node_Node_Recs_b4 p_) (λout_13=>
 (some out_13)) 0 z2 []))
def m_firthlaw15_awake: Option Bool:=
 (Option.bind (m_disk_New 5000) λz1=>(Option.bind (m_firthlaw15_at 1) λz10=>(chk (i64b z10.site) (chk (i64b z10.node) (Option.bind (m_node_Open z1 z10 256 3) λz14=>(bif ((Option.isNone z14.2.1)||(z14.2.2 != 0)) then
 (some false)
 else
 (Option.bind z14.2.1 λz29=>(Option.bind (m_firthlaw15_one (⟨#[107]⟩:ByteArray) 1 1) λz32=>(Option.bind (m_firthlaw15_put 1 [z32]) λz48=>(Option.bind (m_node_Node_Handle z29 z48 z14.1) λz65=>(Option.bind (m_firthlaw15_one (⟨#[107]⟩:ByteArray) 2 1) λz79=>(Option.bind (m_firthlaw15_put 1 [z79]) λz95=>(Option.bind (m_node_Node_Handle z65.1 (⟨z95.kind,(⟨z95.from_.site,z95.from_.node⟩:Adr),(⟨z95.to_.site,z95.to_.node⟩:Adr),z95.id,z95.n,3,z95.code,z95.key,z95.recs,z95.vec,z95.path,z95.hashes,z95.route⟩:Dapi_Msg) z65.2.1) λz113=>(Option.bind (m_node_Node_Tick z113.1) λz127=>(chk (imp (!((z65.2.2.length:Int) != 1)) (decide (0<z65.2.2.length))) (chk (imp (!(((((z65.2.2.length:Int) != 1)||((gt z65.2.2 0).kind != 2))||((z113.2.2.length:Int) != 0))||((z127.length:Int) != 1))) (decide (0<z127.length))) (Option.bind (gcall (!(((((z65.2.2.length:Int) != 1)||((gt z65.2.2 0).kind != 2))||((z113.2.2.length:Int) != 0))||((z127.length:Int) != 1))) (m_firthlaw15_at 3)) λz178=>(bif (!((((((z65.2.2.length:Int) != 1)||((gt z65.2.2 0).kind != 2))||((z113.2.2.length:Int) != 0))||((z127.length:Int) != 1))||((gt z127 0).to_ != z178))) then
 (Option.bind (m_node_Node_Hints z113.1 3) λz183=>(bif (!((z183.length:Int) != 1)) then
 (Option.bind (m_node_Node_Recs z113.1 (-1)) λz198=>(bif ((z198.length:Int) != 1) then
 (some false)
 else
 (chk (decide (0<z127.length)) (Option.bind (m_firthlaw15_at 3) λz214=>(Option.bind (m_firthlaw15_at 1) λz216=>(chk (i64b z214.site) (chk (i64b z214.node) (chk (i64b z216.site) (chk (i64b z216.node) (Option.bind (m_node_Node_Handle z113.1 (⟨2,(⟨z214.site,z214.node⟩:Adr),(⟨z216.site,z216.node⟩:Adr),0,0,0,0,ByteArray.empty,(gt z127 0).recs,[],[],[],[]⟩:Dapi_Msg) z113.2.1) λz222=>(Option.bind (m_node_Node_Hints z222.1 3) λz236=>(some ((z236.length:Int)==0)))))))))))))
 else
 (some false)))
 else
 (some false)))))))))))))))))))
def m_firthlaw15_heavy_b6(f15:Int→Option Int)(i16:Nat)(ei16:Ver):Int→Option Int:=λn_13=>
 (f15 (w64 ((w64 ((w64 (n_13+128))+(((ei16.val).size:Nat):Int)))+(w64 (32*(((ei16.past).length:Nat):Int))))))
def m_firthlaw15_heavy_b5(f3:Int→Option Int)(i4:Nat)(ei4:Rec):Int→Option Int:=λn_1=>
 (forI (m_firthlaw15_heavy_b6) (λn_13=>
 (f3 n_13)) 0 (ei4.vers) (w64 ((w64 (n_1+64))+(((ei4.key).size:Nat):Int))))
def m_firthlaw15_heavy(list:List Rec):Option Int:=
 (forI (m_firthlaw15_heavy_b5) (λn_1=>
 (some n_1)) 0 list 0)
def m_firthref03_Dot(d:Dot):Option Bool:=
 (some ((((decide (1≤d.s))&&(decide (d.s≤16)))&&(decide (1≤d.n)))&&(decide (d.n≤4611686018427387904))))
def m_firthref03_Right_b1(l:List Span)(f2:Unit→Option Bool)(i3:Nat)(ei3:Span):Unit→Option Bool:=λ_=>
 (Option.bind (m_firthref03_Dot (⟨ei3.s,ei3.f⟩:Dot)) λz9=>(Option.bind (gcall (!(!z9)) (m_firthref03_Dot (⟨ei3.s,ei3.t⟩:Dot))) λz23=>(bif (((!z9)||(!z23))||(decide (ei3.t<ei3.f))) then
 (some false)
 else
 (chk (imp (decide (0<(i3:Int))) (inb (w64 ((i3:Int) - 1)) l.length)) (bif ((decide (0<(i3:Int)))&&((decide (ei3.s<(gt l ((w64 ((i3:Int) - 1)).toNat)).s))||((ei3.s==(gt l ((w64 ((i3:Int) - 1)).toNat)).s)&&(decide ((w64 (ei3.f - 1))≤(gt l ((w64 ((i3:Int) - 1)).toNat)).t))))) then
 (some false)
 else
 (f2 ()))))))
def m_firthref03_Right(l:List Span):Option Bool:=
 (bif (decide (1024<(l.length:Int))) then
 (some false)
 else
 (forI (m_firthref03_Right_b1 l) (λ_=>
 (some true)) 0 l ()))
def m_firthref03_Top_j6(f3:Int→Option Int)(n_10:Int):Option Int:=
 (f3 n_10)
def m_firthref03_Top_b5(s_:Int)(f3:Int→Option Int)(i4:Nat)(ei4:Span):Int→Option Int:=λn_1=>
 (bif ((ei4.s==s_)&&(decide (n_1<ei4.t))) then
 (m_firthref03_Top_j6 f3 (ei4.t))
 else
 (m_firthref03_Top_j6 f3 n_1))
def m_firthref03_Top(l:List Span)(s_:Int):Option Int:=
 (forI (m_firthref03_Top_b5 s_) (λn_1=>
 (some n_1)) 0 l 0)
def m_firthref05_RightOne(v_:Ver):Option Bool:=
 (Option.bind (m_firthref03_Dot v_.dot) λz2=>(Option.bind (gcall (!(!z2)) (m_firthref03_Right v_.past)) λz7=>(Option.bind (gcall (!((!z2)||(!z7))) (m_firthref03_Top v_.past v_.dot.s)) λz16=>(bif (((!z2)||(!z7))||(decide (v_.dot.n≤z16))) then
 (some false)
 else
 (bif v_.gone then
 (some (v_.val==ByteArray.empty))
 else
 (some (decide ((v_.val.size:Int)≤256))))))))
def m_firthref03_Has_b1(d:Dot)(f2:Unit→Option Bool)(i3:Nat)(ei3:Span):Unit→Option Bool:=λ_=>
 (bif (((ei3.s==d.s)&&(decide (ei3.f≤d.n)))&&(decide (d.n≤ei3.t))) then
 (some true)
 else
 (f2 ()))
def m_firthref03_Has(l:List Span)(d:Dot):Option Bool:=
 (forI (m_firthref03_Has_b1 d) (λ_=>
 (some false)) 0 l ())
def m_firthref05_Behind_b1(d:Dot)(f2:Unit→Option Bool)(i3:Nat)(ei3:Ver):Unit→Option Bool:=λ_=>
 (Option.bind (m_firthref03_Has (ei3.past) d) λz12=>(bif z12 then
 (some true)
 else
 (f2 ())))
def m_firthref05_Behind(l:List Ver)(d:Dot):Option Bool:=
 (forI (m_firthref05_Behind_b1 d) (λ_=>
 (some false)) 0 l ())
def m_firthref05_Less(a:Dot)(b:Dot):Option Bool:=
 (bif (a.s != b.s) then
 (some (decide (a.s<b.s)))
 else
 (some (decide (a.n<b.n))))
def m_firthref05_Right_b1(l:List Ver)(f2:Unit→Option Bool)(i3:Nat)(ei3:Ver):Unit→Option Bool:=λ_=>
 (Option.bind (m_firthref05_RightOne ei3) λz12=>(Option.bind (gcall (!(!z12)) (m_firthref05_Behind l (ei3.dot))) λz21=>(bif ((!z12)||z21) then
 (some false)
 else
 (chk (imp (decide (0<(i3:Int))) (inb (w64 ((i3:Int) - 1)) l.length)) (Option.bind (gcall (decide (0<(i3:Int))) (m_firthref05_Less ((gt l ((w64 ((i3:Int) - 1)).toNat)).dot) (ei3.dot))) λz40=>(bif ((decide (0<(i3:Int)))&&(!z40)) then
 (some false)
 else
 (f2 ())))))))
def m_firthref05_Right(l:List Ver):Option Bool:=
 (bif (decide (512<(l.length:Int))) then
 (some false)
 else
 (forI (m_firthref05_Right_b1 l) (λ_=>
 (some true)) 0 l ()))
def m_firthref06_RightRec(r_:Rec):Option Bool:=
 (Option.bind (gcall ((r_.key != ByteArray.empty)&&(decide ((r_.key.size:Int)≤32))) (m_firthref05_Right r_.vers)) λz9=>(some (((r_.key != ByteArray.empty)&&(decide ((r_.key.size:Int)≤32)))&&z9)))
def m_firthref03_Same_b1(b:List Span)(f2:Unit→Option Bool)(i3:Nat)(ei3:Span):Unit→Option Bool:=λ_=>
 (chk (decide (i3<b.length)) (bif (ei3 != (gt b i3)) then
 (some false)
 else
 (f2 ())))
def m_firthref03_Same(a:List Span)(b:List Span):Option Bool:=
 (bif ((a.length:Int) != (b.length:Int)) then
 (some false)
 else
 (forI (m_firthref03_Same_b1 b) (λ_=>
 (some true)) 0 a ()))
def m_firthref05_SameOne(a:Ver)(b:Ver):Option Bool:=
 (Option.bind (gcall (((a.dot==b.dot)&&(a.gone==b.gone))&&(a.val==b.val)) (m_firthref03_Same a.past b.past)) λz18=>(some ((((a.dot==b.dot)&&(a.gone==b.gone))&&(a.val==b.val))&&z18)))
def m_firthlaw15_under_b5(a:List Span)(i2:Nat)(f9:Bool→Option Bool)(i10:Nat)(ei10:Span):Bool→Option Bool:=λin_8=>
 (f9 (in_8||((((gt a i2).s==ei10.s)&&(decide (ei10.f≤(gt a i2).f)))&&(decide ((gt a i2).t≤ei10.t)))))
def m_firthlaw15_under_b4(a:List Span)(b:List Span)(f1:Unit→Option Bool)(i2:Nat)(ei2:Span):Unit→Option Bool:=λ_=>
 (forI (m_firthlaw15_under_b5 a i2) (λin_8=>
 (bif (!in_8) then
 (some false)
 else
 (f1 ()))) 0 b false)
def m_firthlaw15_under(a:List Span)(b:List Span):Option Bool:=
 (forI (m_firthlaw15_under_b4 a b) (λ_=>
 (some true)) 0 a ())
def m_firthlaw15_written_b5(a:List Ver)(b:List Ver)(i2:Nat)(f8:Unit→Option Bool)(i9:Nat)(ei9:Ver):Unit→Option Bool:=λ_=>
 (Option.bind (gcall ((gt a i2).dot==ei9.dot) (m_firthref05_SameOne (gt a i2) ei9)) λz30=>(bif (((gt a i2).dot==ei9.dot)&&(!z30)) then
 (some false)
 else
 (chk (decide (i2+1≤a.length)) (Option.bind (m_firthref05_Behind (List.drop i2 (List.take (i2+1) a)) (ei9.dot)) λz35=>(chk (imp z35 (decide (i9+1≤b.length))) (Option.bind (gcall z35 (m_firthref05_Behind (List.drop i9 (List.take (i9+1) b)) ((gt a i2).dot))) λz49=>(Option.bind (gcall (z35&&(!z49)) (m_firthlaw15_under (ei9.past) ((gt a i2).past))) λz63=>(bif (z35&&(z49||(!z63))) then
 (some false)
 else
 (f8 ())))))))))
def m_firthlaw15_written_b4(a:List Ver)(b:List Ver)(f1:Unit→Option Bool)(i2:Nat)(ei2:Ver):Unit→Option Bool:=λ_=>
 (forI (m_firthlaw15_written_b5 a b i2) (λ_=>
 (f1 ())) 0 b ())
def m_firthlaw15_written(a:List Ver)(b:List Ver):Option Bool:=
 (forI (m_firthlaw15_written_b4 a b) (λ_=>
 (some true)) 0 a ())
def m_firthlaw15_plain_b6(list:List Rec)(i7:Nat)(f21:Unit→Option Bool)(i22:Nat)(ei22:Rec):Unit→Option Bool:=λ_=>
 (Option.bind (gcall ((gt list i7).key==ei22.key) (m_firthlaw15_written ((gt list i7).vers) (ei22.vers))) λz45=>(bif (((gt list i7).key==ei22.key)&&(!z45)) then
 (some false)
 else
 (f21 ())))
def m_firthlaw15_plain_b5(list:List Rec)(f6:Int→Option Bool)(i7:Nat)(ei7:Rec):Int→Option Bool:=λn_4=>
 (Option.bind (m_firthref06_RightRec ei7) λz16=>(bif ((!z16)||(decide (512<(w64 (n_4+(((ei7.vers).length:Nat):Int)))))) then
 (some false)
 else
 (forI (m_firthlaw15_plain_b6 list i7) (λ_=>
 (f6 (w64 (n_4+(((ei7.vers).length:Nat):Int))))) 0 list ())))
def m_firthlaw15_plain(list:List Rec):Option Bool:=
 (Option.bind (m_firthlaw15_heavy list) λz1=>(bif (decide (65536<z1)) then
 (some false)
 else
 (forI (m_firthlaw15_plain_b5 list) (λn_4=>
 (some true)) 0 list 0)))
def m_firthref01_Hash_b1(f3:Int→Option Int)(i4:Nat)(ei4:UInt8):Int→Option Int:=λh_1=>
 (f3 (wu64 ((ixor .u64 h_1 (wu64 (ei4.toNat:Int)))*1099511628211)))
def m_firthref01_Hash(b:List UInt8):Option Int:=
 (forI (m_firthref01_Hash_b1) (λh_1=>
 (some (ixor .u64 (wu64 ((ixor .u64 h_1 (wu64 (h_1.tdiv 8589934592)))*18397679294719823053)) (wu64 ((wu64 ((ixor .u64 h_1 (wu64 (h_1.tdiv 8589934592)))*18397679294719823053)).tdiv 8589934592))))) 0 b 14695981039346656037)
def m_firthref12_Part(key:ByteArray):Option Int:=
 (Option.bind (m_firthref01_Hash (key.data.toList)) λz7=>(some (w64 (z7.tmod 8))))
def m_firthref05_Same_b1(b:List Ver)(f2:Unit→Option Bool)(i3:Nat)(ei3:Ver):Unit→Option Bool:=λ_=>
 (chk (decide (i3<b.length)) (Option.bind (m_firthref05_SameOne ei3 (gt b i3)) λz16=>(bif (!z16) then
 (some false)
 else
 (f2 ()))))
def m_firthref05_Same(a:List Ver)(b:List Ver):Option Bool:=
 (bif ((a.length:Int) != (b.length:Int)) then
 (some false)
 else
 (forI (m_firthref05_Same_b1 b) (λ_=>
 (some true)) 0 a ()))
def m_firthref06_SameRecs_b1(b:List Rec)(f2:Unit→Option Bool)(i3:Nat)(ei3:Rec):Unit→Option Bool:=λ_=>
 (chk (decide (i3<b.length)) (Option.bind (gcall (!(ei3.key != (gt b i3).key)) (m_firthref05_Same (ei3.vers) ((gt b i3).vers))) λz27=>(bif ((ei3.key != (gt b i3).key)||(!z27)) then
 (some false)
 else
 (f2 ()))))
def m_firthref06_SameRecs(a:List Rec)(b:List Rec):Option Bool:=
 (bif ((a.length:Int) != (b.length:Int)) then
 (some false)
 else
 (forI (m_firthref06_SameRecs_b1 b) (λ_=>
 (some true)) 0 a ()))
def m_disk_Disk_Crash_j2(d:Odisk_Disk)(m42:List (ByteArray×(List UInt8))):Option Odisk_Disk:=
 (some (⟨d.room,m42,m42,[]⟩:Odisk_Disk))
def m_disk_Disk_Crash_b1(f13:List (ByteArray×(List UInt8))→Option Odisk_Disk)(i14:Nat)(ei14:Ddisk_change):List (ByteArray×(List UInt8))→Option Odisk_Disk:=λm10=>
 (Option.bind (m_call_Cdisk_change_do (ei14.do_) m10) λz27=>(f13 z27))
def m_disk_Disk_Crash(d:Odisk_Disk)(keep:Int)(torn:Int):Option Odisk_Disk:=
 (chk (inle (min (max keep 0) (d.loose.length:Int)) d.loose.length) (forI (m_disk_Disk_Crash_b1) (λm10=>
 (bif (decide ((min (max keep 0) (d.loose.length:Int))<(d.loose.length:Int))) then
 (chk (inb (min (max keep 0) (d.loose.length:Int)) d.loose.length) (bif (decide (0<(min (max torn 0) ((((gt d.loose ((min (max keep 0) (d.loose.length:Int)).toNat)).tail).length:Nat):Int)))) then
 (chk (inle (min (max torn 0) ((((gt d.loose ((min (max keep 0) (d.loose.length:Int)).toNat)).tail).length:Nat):Int)) (((gt d.loose ((min (max keep 0) (d.loose.length:Int)).toNat)).tail).length)) (Option.bind (m_disk_add ((gt d.loose ((min (max keep 0) (d.loose.length:Int)).toNat)).name) (List.take ((min (max torn 0) ((((gt d.loose ((min (max keep 0) (d.loose.length:Int)).toNat)).tail).length:Nat):Int)).toNat) ((gt d.loose ((min (max keep 0) (d.loose.length:Int)).toNat)).tail))) λz56=>(Option.bind (m_call_Cdisk_change_do z56 m10) λz65=>(m_disk_Disk_Crash_j2 d z65))))
 else
 (m_disk_Disk_Crash_j2 d m10)))
 else
 (m_disk_Disk_Crash_j2 d m10))) 0 (List.take ((min (max keep 0) (d.loose.length:Int)).toNat) d.loose) d.safe_))
def m_firthlaw15_NodeHints_j226(f277:Onode_Node×Odisk_Disk→Option Bool)(o286:Onode_Node)(o289:Odisk_Disk):Option Bool:=
 (f277 (o286,o289))
def m_firthlaw15_NodeHints_b225(lost:Int)(i146:Nat)(i209:Nat)(f277:Onode_Node×Odisk_Disk→Option Bool)(i278:Nat)(ei278:Dapi_Msg):Onode_Node×Odisk_Disk→Option Bool:=λ(o271,o274)=>
 (chk (imp (!(decide (1<(i146:Int)))) (decide (0≤((wu64 ((i209+1:Nat):Int)).tmod 8)))) (bif ((decide (1<(i146:Int)))||((iand .u8 (ishr .u8 lost ((wu64 ((i209+1:Nat):Int)).tmod 8)) 1)==0)) then
 (Option.bind (m_node_Node_Handle o271 ei278 o274) λz313=>(m_firthlaw15_NodeHints_j226 f277 z313.1 z313.2.1))
 else
 (m_firthlaw15_NodeHints_j226 f277 o271 o274)))
def m_firthlaw15_NodeHints_j216(f208:Onode_Node×Odisk_Disk×Odisk_Disk×Onode_Node→Option Bool)(o217:Onode_Node)(o220:Odisk_Disk)(o223:Odisk_Disk)(o226:Onode_Node):Option Bool:=
 (f208 (o217,o220,o223,o226))
def m_firthlaw15_NodeHints_b215(lost:Int)(i146:Nat)(f208:Onode_Node×Odisk_Disk×Odisk_Disk×Onode_Node→Option Bool)(i209:Nat)(ei209:Dapi_Msg):Onode_Node×Odisk_Disk×Odisk_Disk×Onode_Node→Option Bool:=λ(o196,o199,o202,o205)=>
 (Option.bind (m_firthlaw15_at 4) λz240=>(chk (imp ((!(ei209.to_ != z240))&&((i146:Int)==0)) (decide (0≤((wu64 (i209:Int)).tmod 8)))) (bif ((ei209.to_ != z240)||(((i146:Int)==0)&&((iand .u8 (ishr .u8 lost ((wu64 (i209:Int)).tmod 8)) 1)==1))) then
 (m_firthlaw15_NodeHints_j216 f208 o196 o199 o202 o205)
 else
 (Option.bind (m_node_Node_Handle o205 ei209 o202) λz255=>(forI (m_firthlaw15_NodeHints_b225 lost i146 i209) (λ(o271,o274)=>
 (m_firthlaw15_NodeHints_j216 f208 o271 o274 z255.2.1 z255.1)) 0 z255.2.2 (o196,o199))))))
def m_firthlaw15_NodeHints_b181(lost:Int)(fate0:Int)(fate1:Int)(f145:(Option Onode_Node)×Odisk_Disk×Odisk_Disk×Onode_Node→Option Bool)(i146:Nat):(Option Onode_Node)×Odisk_Disk×Odisk_Disk×Onode_Node→Option Bool:=λ(o132,o136,o139,o142)=>
 (Option.bind (m_disk_Disk_Crash o136 fate0 fate1) λz154=>(Option.bind (m_firthlaw15_at 1) λz162=>(chk (i64b z162.site) (chk (i64b z162.node) (Option.bind (m_node_Open z154 z162 500 3) λz166=>(bif ((Option.isNone z166.2.1)||(z166.2.2 != 0)) then
 (some false)
 else
 (Option.bind z166.2.1 λz181=>(Option.bind (m_node_Node_Tick z181) λz184=>(forI (m_firthlaw15_NodeHints_b215 lost i146) (λ(o196,o199,o202,o205)=>
 (f145 ((some o196),o199,o202,o205))) 0 z184 (z181,z166.1,o139,o142))))))))))
def m_firthlaw15_NodeHints(list:List Rec)(lost:Int)(fate0:Int)(fate1:Int):Option Bool:=
 (Option.bind (m_firthlaw15_awake) λz2=>(Option.bind (gcall (!(!z2)) (m_firthlaw15_plain list)) λz6=>(bif ((!z2)||(!z6)) then
 (Option.bind (m_firthlaw15_awake) λz10=>(some z10))
 else
 (Option.bind (m_disk_New 16777216) λz12=>(Option.bind (m_firthlaw15_at 1) λz21=>(chk (i64b z21.site) (chk (i64b z21.node) (Option.bind (m_node_Open z12 z21 500 3) λz25=>(Option.bind (m_disk_New 16777216) λz37=>(Option.bind (m_firthlaw15_at 4) λz46=>(chk (i64b z46.site) (chk (i64b z46.node) (Option.bind (m_node_Open z37 z46 500 3) λz50=>(bif ((((Option.isNone z25.2.1)||(Option.isNone z50.2.1))||(z25.2.2 != 0))||(z50.2.2 != 0)) then
 (some false)
 else
 (Option.bind z50.2.1 λz69=>(Option.bind z25.2.1 λz72=>(Option.bind (m_firthlaw15_put 1 list) λz75=>(Option.bind (m_node_Node_Handle z72 (⟨z75.kind,(⟨z75.from_.site,z75.from_.node⟩:Adr),(⟨z75.to_.site,z75.to_.node⟩:Adr),z75.id,z75.n,4,z75.code,z75.key,z75.recs,z75.vec,z75.path,z75.hashes,z75.route⟩:Dapi_Msg) z25.1) λz93=>(bif (!((z93.2.2.length:Int) != 0)) then
 (Option.bind (m_node_Node_Recs z93.1 (-1)) λz109=>(bif ((z109.length:Int) != 0) then
 (some false)
 else
 (Option.bind (m_node_Node_Hints z93.1 4) λz120=>(forU (m_firthlaw15_NodeHints_b181 lost fate0 fate1) (λ(o132,o136,o139,o142)=>
 (Option.bind o132 λz329=>(Option.bind (m_node_Node_Hints z329 4) λz332=>(bif ((z332.length:Int)==0) then
 (Option.bind (m_node_Node_Tick z329) λz344=>(bif ((z344.length:Int)==0) then
 (Option.bind (m_node_Node_Recs o142 (-1)) λz356=>(Option.bind (m_firthref06_SameRecs z356 z120) λz366=>(some z366)))
 else
 (some false)))
 else
 (some false))))) 3 0 ((some z93.1),z93.2.1,z50.1,z69)))))
 else
 (some false))))))))))))))))))))
end Fw
end Go.Proofs.YtckindfllegbgaaGreat
