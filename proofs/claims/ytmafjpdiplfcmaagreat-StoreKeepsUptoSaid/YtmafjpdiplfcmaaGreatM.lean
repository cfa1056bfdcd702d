/- What the functions compute, as Lean functions (printed by a program). No condition. -/
import Derived.Test.YtmafjpdiplfcmaaGreatE
import Derived.Test.YtmafjpdiplfcmaaGreatK14
import Derived.Test.YtmafjpdiplfcmaaGreatK15
import Derived.Test.YtmafjpdiplfcmaaGreatK16
import Derived.Test.YtmafjpdiplfcmaaGreatK17
import Derived.Test.YtmafjpdiplfcmaaGreatK18
import Derived.Test.YtmafjpdiplfcmaaGreatK19
import Derived.Test.YtmafjpdiplfcmaaGreatK22
import Derived.Test.YtmafjpdiplfcmaaGreatK23
import Derived.Test.YtmafjpdiplfcmaaGreatK24
import Derived.Test.YtmafjpdiplfcmaaGreatK25
import Derived.Test.YtmafjpdiplfcmaaGreatK26
import Derived.Test.YtmafjpdiplfcmaaGreatK27
import Derived.Test.YtmafjpdiplfcmaaGreatK28
import Derived.Test.YtmafjpdiplfcmaaGreatK29
namespace Go.Proofs.YtmafjpdiplfcmaaGreat
namespace Fw
set_option linter.unusedVariables false
set_option linter.unusedSimpArgs false
set_option linter.unusedSectionVars false
open Go.RowKit
structure Odisk_Disk where
  room : Int
  safe_ : (List (ByteArray × (List UInt8)))
  seen : (List (ByteArray × (List UInt8)))
  loose : (List Ddisk_change)
  deriving Inhabited, DecidableEq
abbrev YSframe_frames_1 := (List (List UInt8) × Int)
abbrev YSseglog_place_parts_1 := (List ByteArray)
structure Oseglog_Log where
  place_name : ByteArray
  place_gen : Int
  size : Int
  last : Int
  tail : Int
  count : Int
  bytes : Int
  deriving Inhabited, DecidableEq
structure Ostore_Store where
  log : Oseglog_Log
  keys : (List (ByteArray × (List UInt8)))
  deriving Inhabited, DecidableEq
structure Ocode_reader where
  b : (List UInt8)
  at_ : Int
  deriving Inhabited, DecidableEq
structure Ocode_writer where
  b : (List UInt8)
  deriving Inhabited, DecidableEq
def m_disk_New (room : Int) : Option Odisk_Disk :=
 (some (⟨(min (max room 0) 1073741824), ([] : List (ByteArray × (List UInt8))), ([] : List (ByteArray × (List UInt8))), []⟩ : Odisk_Disk))
def m_internal_stringslite_IndexByte (s_ : ByteArray) (c_ : Int) : Option Int :=
 (some (ixb s_ c_))
def m_internal_stringslite_Index (s_ : ByteArray) : Option Int :=
 (bif ((⟨#[46]⟩ : ByteArray) == s_) then
 (some 0)
 else
 (Option.bind (m_internal_stringslite_IndexByte s_ 46) fun z2 => (some z2)))
def m_strings_Index (s_ : ByteArray) : Option Int :=
 (Option.bind (m_internal_stringslite_Index s_) fun z1 => (some z1))
def m_strings_Contains (s_ : ByteArray) : Option Bool :=
 (Option.bind (m_strings_Index s_) fun z1 => (some (decide (0 ≤ z1))))
def m_seglog_place_list (p__1 : ByteArray) (p__2 : Int) : Option ByteArray :=
 (some (p__1 ++ (⟨#[46, 109]⟩ : ByteArray)))
def m_slices_Clone_byte_byte (s_ : List UInt8) : Option (List UInt8) :=
 (nilc s_.isEmpty (
 (some []))
 ((chk (decide (0 + s_.length ≤ lim)) (some (([] : List UInt8) ++ s_)))))
def m_disk_Disk_Read (d : Odisk_Disk) (name : ByteArray) : Option ((List UInt8) × Bool) :=
 (Option.bind (m_slices_Clone_byte_byte ((mget name d.seen).getD [])) fun z9 => (some (z9, ((mget name d.seen).isSome))))
def m_num_Num_j1 (e_6 : Int) : Option (Int × Int × Int) :=
 (some (0, 0, e_6))
def m_num_Num_j11 (b : List UInt8) (at_ : Int) (n_9 : Int) (f10 : Int → Option (Int × Int × Int)) (i11 : Nat) (x_17 : Bool) : Option (Int × Int × Int) :=
 (bif x_17 then
 (m_num_Num_j1 2)
 else
 (bif (decide ((((gt (List.drop at_.toNat b) i11).toNat : Nat) : Int) < 128)) then
 (chk (decide (0 ≤ (w64 (7 * ((i11 : Nat) : Int))))) (some ((w64 (ior .u64 n_9 (ishl .u64 (wu64 (((gt (List.drop at_.toNat b) i11).toNat : Nat) : Int)) (w64 (7 * ((i11 : Nat) : Int)))))), (w64 ((w64 (at_ + ((i11 : Nat) : Int))) + 1)), 0)))
 else
 (chk (decide (0 ≤ (w64 (7 * ((i11 : Nat) : Int))))) (f10 (ior .u64 n_9 (ishl .u64 (wu64 (iand .u8 (((gt (List.drop at_.toNat b) i11).toNat : Nat) : Int) 127)) (w64 (7 * ((i11 : Nat) : Int)))))))))
def m_num_Num_b10 (b : List UInt8) (at_ : Int) (f10 : Int → Option (Int × Int × Int)) (i11 : Nat) (ei11 : UInt8) : Int → Option (Int × Int × Int) := fun n_9 =>
 (bif ((((i11 : Nat) : Int) == 8) && (decide (127 < ((ei11.toNat : Nat) : Int)))) then
 (m_num_Num_j11 b at_ n_9 f10 i11 ((((i11 : Nat) : Int) == 8) && (decide (127 < ((ei11.toNat : Nat) : Int)))))
 else
 (m_num_Num_j11 b at_ n_9 f10 i11 ((decide (0 < ((i11 : Nat) : Int))) && (((ei11.toNat : Nat) : Int) == 0))))
def m_num_Num (b : List UInt8) (at_ : Int) : Option (Int × Int × Int) :=
 (bif ((decide (at_ < 0)) || (decide (((b.length : Nat) : Int) < at_))) then
 (some (0, 0, 1))
 else
 (chk (inle at_ b.length) (forI (m_num_Num_b10 b at_) (fun n_9 =>
 (m_num_Num_j1 4)) 0 (List.drop at_.toNat b) 0)))
def m_frame_Sum_b21 (f21 : Int → Option Int) (i22 : Nat) : Int → Option Int := fun r_20 =>
 (f21 (ixor .u32 (ishr .u32 r_20 1) (iand .u32 3988292384 (wu32 (0 - (iand .u32 r_20 1))))))
def m_frame_Sum_b20 (f13 : Int → Option Int) (i14 : Nat) (ei14 : UInt8) : Int → Option Int := fun r_12 =>
 (forU (m_frame_Sum_b21) (fun r_20 =>
 (f13 r_20)) 8 0 (ixor .u32 r_12 (wu32 ((ei14.toNat : Nat) : Int))))
def m_frame_Sum_b16 (f2 : Int → Option Int) (i3 : Nat) (ei3 : (List UInt8)) : Int → Option Int := fun r_1 =>
 (forI (m_frame_Sum_b20) (fun r_12 =>
 (f2 r_12)) 0 ei3 r_1)
def m_frame_Sum (parts : List (List UInt8)) : Option Int :=
 (forI (m_frame_Sum_b16) (fun r_1 =>
 (some (icom .u32 r_1))) 0 parts 4294967295)
def m_frame_Next_b1 (b : List UInt8) (z1 : Int × Int × Int) (z15 : Int) (f17 : Unit → Option ((List UInt8) × Int × Int)) (i18 : Nat) : Unit → Option ((List UInt8) × Int × Int) := fun _ =>
 (chk (inb (w64 (z1.2.1 + ((i18 : Nat) : Int))) b.length) (chk (decide (0 ≤ (w64 (8 * ((i18 : Nat) : Int))))) (bif ((((gt b ((w64 (z1.2.1 + ((i18 : Nat) : Int))).toNat)).toNat : Nat) : Int) != (wu8 (ishr .u32 z15 (w64 (8 * ((i18 : Nat) : Int)))))) then
 (some ([], 0, 20))
 else
 (f17 ()))))
def m_frame_Next (b : List UInt8) (at_ : Int) : Option ((List UInt8) × Int × Int) :=
 (Option.bind (m_num_Num b at_) fun z1 => (bif (z1.2.2 != 0) then
 (chk (i64b z1.2.2) (some ([], 0, z1.2.2)))
 else
 (bif (decide (1048576 < z1.1)) then
 (some ([], 0, 3))
 else
 (bif (decide ((w64 (((b.length : Nat) : Int) - z1.2.1)) < (w64 (z1.1 + 4)))) then
 (some ([], 0, 4))
 else
 (chk (inle (w64 ((w64 (z1.2.1 + 4)) + z1.1)) b.length) (chk (decide (0 ≤ (w64 (z1.2.1 + 4)))) (chk (decide ((w64 (z1.2.1 + 4)).toNat ≤ (w64 ((w64 (z1.2.1 + 4)) + z1.1)).toNat)) (chk (inle z1.2.1 b.length) (chk (decide (0 ≤ at_)) (chk (decide (at_.toNat ≤ z1.2.1.toNat)) (Option.bind (m_frame_Sum [(List.drop at_.toNat (List.take z1.2.1.toNat b)), (List.drop ((w64 (z1.2.1 + 4)).toNat) (List.take ((w64 ((w64 (z1.2.1 + 4)) + z1.1)).toNat) b))]) fun z15 => (forU (m_frame_Next_b1 b z1 z15) (fun _ =>
 (chk (decide (0 + (List.drop ((w64 (z1.2.1 + 4)).toNat) (List.take ((w64 ((w64 (z1.2.1 + 4)) + z1.1)).toNat) b)).length ≤ lim)) (some ((([] : List UInt8) ++ (List.drop ((w64 (z1.2.1 + 4)).toNat) (List.take ((w64 ((w64 (z1.2.1 + 4)) + z1.1)).toNat) b))), (w64 ((w64 (z1.2.1 + 4)) + z1.1)), 0)))) 4 0 ()))))))))))))
def m_frame_frames_1_b1 (Y : YSframe_frames_1 → List UInt8 → Int → Option YSframe_frames_1) (b0v : List UInt8) (f10 : Int × Int × YSframe_frames_1 → Option (YSframe_frames_1 × Int)) : Int × Int × YSframe_frames_1 → Option (YSframe_frames_1 × Int) := fun (at_3, x5, o7) =>
 (bif (decide (at_3 < ((b0v.length : Nat) : Int))) then
 (Option.bind (m_frame_Next b0v at_3) fun z15 => (bif (!(z15.2.2 != 0)) then
 (Option.bind (Y o7 z15.1 z15.2.1) fun z36 => (f10 (z15.2.1, z15.2.2, z36)))
 else
 (some (o7, z15.2.2))))
 else
 (some (o7, x5)))
def m_frame_frames_1 (Y : YSframe_frames_1 → List UInt8 → Int → Option YSframe_frames_1) (sY : YSframe_frames_1) (b0v : List UInt8) (b1v : Int) : Option (YSframe_frames_1 × Int) :=
 (loopN (m_frame_frames_1_b1 Y b0v) FU (0, b1v, sY))

def m_frame_All_y (s : YSframe_frames_1) (b : List UInt8) (n : Int) : Option YSframe_frames_1 := chk (decide (s.1.length + 1 ≤ lim)) (some (s.1 ++ [b], n))
def m_frame_All (b : List UInt8) : Option (List (List UInt8) × Int × Int) := Option.bind (m_frame_frames_1 m_frame_All_y ([], 0) b 0) fun z => some (z.1.1, z.1.2, z.2)
def m_seglog_place_holds_b1 (f34 : Int → Option (Int × Int × Int)) (i35 : Nat) (ei35 : (List UInt8)) : Int → Option (Int × Int × Int) := fun gen_33 =>
 (Option.bind (m_num_Num ei35 0) fun z44 => (bif ((((z44.2.2 != 0) || (z44.2.1 != ((ei35.length : Nat) : Int))) || (decide (z44.1 < 1))) || (decide (999999 < z44.1))) then
 (some (0, 0, 2))
 else
 (f34 z44.1)))
def m_seglog_place_holds (p__1 : ByteArray) (p__2 : Int) (dk0 : Odisk_Disk) : Option (Int × Int × Int) :=
 (Option.bind (m_seglog_place_list p__1 p__2) fun z3 => (chk (decide (z3.size ≤ lim)) (Option.bind (m_disk_Disk_Read dk0 z3) fun z6 => (Option.bind (m_frame_All z6.1) fun z21 => (forI (m_seglog_place_holds_b1) (fun gen_33 =>
 (chk (i64b gen_33) (some (gen_33, z21.2.1, 0)))) 0 z21.1 0)))))
def m_disk_Disk_Loose (d : Odisk_Disk) : Option Int :=
 (some ((d.loose.length : Nat) : Int))
def m_disk_right_b1 (f1 : Unit → Option Bool) (i2 : Nat) (ei2 : ByteArray) : Unit → Option Bool := fun _ =>
 (bif ((decide (((ei2.size : Nat) : Int) < 1)) || (decide (16 < ((ei2.size : Nat) : Int)))) then
 (some false)
 else
 (f1 ()))
def m_disk_right (names : List ByteArray) : Option Bool :=
 (forI (m_disk_right_b1) (fun _ =>
 (some true)) 0 names ())
def m_disk_Disk_there (d : Odisk_Disk) (name : ByteArray) : Option Int :=
 (Option.bind (m_disk_right [name]) fun z3 => (bif (!z3) then
 (some 70)
 else
 (bif (!((mget name d.seen).isSome)) then
 (some 71)
 else
 (some 0))))
def m_slices_Clip_byte_byte (s_ : List UInt8) : Option (List UInt8) :=
 (some s_)
def m_disk_add_1 (f_ : List (ByteArray × (List UInt8))) (b0 : ByteArray) (b1 : (List UInt8)) : Option (List (ByteArray × (List UInt8))) :=
 (Option.bind (m_slices_Clip_byte_byte ((mget b0 f_).getD [])) fun z9 => (chk (decide (((mget b0 f_).getD []).length + b1.length ≤ lim)) (some (mput b0 (((mget b0 f_).getD []) ++ b1) f_))))
def m_disk_Disk_Cut_1 (f_ : List (ByteArray × (List UInt8))) (b0 : ByteArray) (b1 : Int) : Option (List (ByteArray × (List UInt8))) :=
 (chk (inle b1 (((mget b0 f_).getD []).length)) (some (mput b0 (List.take b1.toNat ((mget b0 f_).getD [])) f_)))
def m_disk_Disk_Remove_1 (f_ : List (ByteArray × (List UInt8))) (b0 : ByteArray) : Option (List (ByteArray × (List UInt8))) :=
 (some (mdel b0 f_))
def m_call_Cdisk_change_do (x : Cdisk_change_do) (f_ : List (ByteArray × (List UInt8))) : Option (List (ByteArray × (List UInt8))) :=
  match x with
  | .disk_add_1 a0 a1 => m_disk_add_1 f_ a0 a1
  | .disk_Disk_Cut_1 a0 a1 => m_disk_Disk_Cut_1 f_ a0 a1
  | .disk_Disk_Remove_1 a0 => m_disk_Disk_Remove_1 f_ a0
def m_disk_Disk_done (d : Odisk_Disk) (c_ : Ddisk_change) : Option (Odisk_Disk × Int) :=
 (Option.bind (m_call_Cdisk_change_do c_.do_ d.seen) fun z4 => (chk (decide (d.loose.length + 1 ≤ lim)) (some ((⟨d.room, d.safe_, z4, (d.loose ++ [c_])⟩ : Odisk_Disk), 0))))
def m_disk_Disk_Cut (d : Odisk_Disk) (name : ByteArray) (n : Int) : Option (Odisk_Disk × Int) :=
 (Option.bind (m_disk_Disk_there d name) fun z3 => (bif (z3 != 0) then
 (chk (i64b z3) (some (d, z3)))
 else
 (bif ((decide (n < 0)) || (decide (((((mget name d.seen).getD []).length : Nat) : Int) < n))) then
 (some (d, 1))
 else
 (Option.bind (m_disk_Disk_done d (⟨(Cdisk_change_do.disk_Disk_Cut_1 name n), ByteArray.empty, []⟩ : Ddisk_change)) fun z36 => (some (z36.1, z36.2))))))
def m_seglog_place_shorten (p__1 : ByteArray) (p__2 : Int) (f_ : ByteArray) (n : Int) (dk0 : Odisk_Disk) : Option Odisk_Disk :=
 (Option.bind (m_disk_Disk_Read dk0 f_) fun z2 => (bif (decide (n < ((z2.1.length : Nat) : Int))) then
 (Option.bind (m_disk_Disk_Cut dk0 f_ n) fun z13 => (some z13.1))
 else
 (some dk0)))
def m_disk_Disk_Names (d : Odisk_Disk) : Option (List ByteArray) :=
 (chk (decide (d.seen.length ≤ lim)) (some (skeys d.seen)))
def m_internal_stringslite_HasPrefix (s_ : ByteArray) (prefix_ : ByteArray) : Option Bool :=
 (chk (imp (decide (((prefix_.size : Nat) : Int) ≤ ((s_.size : Nat) : Int))) (decide (prefix_.size ≤ s_.size))) (some ((decide (((prefix_.size : Nat) : Int) ≤ ((s_.size : Nat) : Int))) && ((s_.extract 0 prefix_.size) == prefix_))))
def m_internal_stringslite_CutPrefix (s_ : ByteArray) (prefix_ : ByteArray) : Option (ByteArray × Bool) :=
 (Option.bind (m_internal_stringslite_HasPrefix s_ prefix_) fun z1 => (bif (!z1) then
 (some (s_, false))
 else
 (chk (decide (prefix_.size ≤ s_.size)) (some ((s_.extract prefix_.size s_.size), true)))))
def m_strings_CutPrefix (s_ : ByteArray) (prefix_ : ByteArray) : Option (ByteArray × Bool) :=
 (Option.bind (m_internal_stringslite_CutPrefix s_ prefix_) fun z1 => (some (z1.1, z1.2)))
def m_internal_stringslite_Cut (s_ : ByteArray) : Option (ByteArray × ByteArray × Bool) :=
 (Option.bind (m_internal_stringslite_Index s_) fun z1 => (bif (decide (0 ≤ z1)) then
 (chk (inle z1 s_.size) (chk (inle (w64 (z1 + 1)) s_.size) (some ((s_.extract 0 z1.toNat), (s_.extract ((w64 (z1 + 1)).toNat) s_.size), true))))
 else
 (some (s_, ByteArray.empty, false))))
def m_strings_Cut (s_ : ByteArray) : Option (ByteArray × ByteArray × Bool) :=
 (Option.bind (m_internal_stringslite_Cut s_) fun z1 => (some (z1.1, z1.2.1, z1.2.2)))
def m_num_Read_b1 (f22 : Int → Option (Int × Int)) (i23 : Nat) (ei23 : UInt8) : Int → Option (Int × Int) := fun n_20 =>
 (bif ((decide (((ei23.toNat : Nat) : Int) < 48)) || (decide (57 < ((ei23.toNat : Nat) : Int)))) then
 (some (0, 2))
 else
 (f22 (wu64 ((wu64 (10 * n_20)) + (wu64 (wu8 (((ei23.toNat : Nat) : Int) - 48)))))))
def m_num_Read (s_ : ByteArray) : Option (Int × Int) :=
 (chk (imp ((!(s_ == ByteArray.empty)) && (decide (1 < ((s_.size : Nat) : Int)))) (decide (0 < s_.size))) (bif (((s_ == ByteArray.empty) || ((decide (1 < ((s_.size : Nat) : Int))) && ((((gt s_.data.toList 0).toNat : Nat) : Int) == 48))) || (decide (19 < ((s_.size : Nat) : Int)))) then
 (some (0, 2))
 else
 (forI (m_num_Read_b1) (fun n_20 =>
 (bif (decide (9223372036854775808 ≤ n_20)) then
 (some (0, 2))
 else
 (some ((w64 n_20), 0)))) 0 (s_.data.toList) 0)))
def m_seglog_place_parts_1_b1 (Y : YSseglog_place_parts_1 → ByteArray → Int → Int → Option YSseglog_place_parts_1) (b0v1 : ByteArray) (f16 : YSseglog_place_parts_1 → Option YSseglog_place_parts_1) (i17 : Nat) (ei17 : ByteArray) : YSseglog_place_parts_1 → Option YSseglog_place_parts_1 := fun o13 =>
 (chk (decide ((b0v1 ++ (⟨#[46]⟩ : ByteArray)).size ≤ lim)) (Option.bind (m_strings_CutPrefix ei17 (b0v1 ++ (⟨#[46]⟩ : ByteArray))) fun z24 => (chk (decide (z24.1.size ≤ lim)) (Option.bind (m_strings_Cut z24.1) fun z27 => (chk (decide (z27.1.size ≤ lim)) (Option.bind (m_num_Read z27.1) fun z30 => (chk (decide (z27.2.1.size ≤ lim)) (Option.bind (m_num_Read z27.2.1) fun z33 => (bif ((((((z24.2 && z27.2.2) && (z30.2 == 0)) && (z33.2 == 0)) && (decide (z30.1 ≤ 999999))) && (decide (1 ≤ z33.1))) && (decide (z33.1 ≤ 999999))) then
 (chk (i64b z30.1) (chk (i64b z33.1) (Option.bind (Y o13 ei17 z30.1 z33.1) fun z54 => (f16 z54))))
 else
 (f16 o13))))))))))
def m_seglog_place_parts_1 (Y : YSseglog_place_parts_1 → ByteArray → Int → Int → Option YSseglog_place_parts_1) (sY : YSseglog_place_parts_1) (b0v0 : Odisk_Disk) (b0v1 : ByteArray) (b0v2 : Int) : Option YSseglog_place_parts_1 :=
 (Option.bind (m_disk_Disk_Names b0v0) fun z1 => (forI (m_seglog_place_parts_1_b1 Y b0v1) (fun o13 =>
 (some o13)) 0 z1 sY))
def m_disk_Disk_Remove (d : Odisk_Disk) (name : ByteArray) : Option (Odisk_Disk × Int) :=
 (Option.bind (m_disk_Disk_there d name) fun z2 => (bif (z2 != 0) then
 (chk (i64b z2) (some (d, z2)))
 else
 (Option.bind (m_disk_Disk_done d (⟨(Cdisk_change_do.disk_Disk_Remove_1 name), ByteArray.empty, []⟩ : Ddisk_change)) fun z11 => (some (z11.1, z11.2)))))

def m_seglog_parts_y (pred : Int → Int → Option Bool) (s : YSseglog_place_parts_1) (f : ByteArray) (g n : Int) : Option YSseglog_place_parts_1 := Option.bind (pred g n) fun q => bif q then chk (decide (s.length + 1 ≤ lim)) (some (s ++ [f])) else some s
def m_seglog_remove_b1 (k : Odisk_Disk → Option Odisk_Disk) (i : Nat) (f : ByteArray) (d : Odisk_Disk) : Option Odisk_Disk := Option.bind (m_disk_Disk_Remove d f) fun z => k z.1
def m_seglog_place_remove (d : Odisk_Disk) (name : ByteArray) (gen : Int) (pred : Int → Int → Option Bool) : Option Odisk_Disk := Option.bind (m_seglog_place_parts_1 (m_seglog_parts_y pred) [] d name gen) fun l => forI m_seglog_remove_b1 some 0 l d
def m_seglog_Open_1 (g_ : Int) (a1 : Int) (b0v : Int) : Option Bool :=
 (some (g_ != b0v))
def m_num_Digits_j3 (at_24 : Int) (x26 : List UInt8) : Option ByteArray :=
 (chk (inle at_24 20) (some (⟨(List.drop at_24.toNat x26).toArray⟩ : ByteArray)))
def m_num_Digits_b2 (n : Int) (f14 : Int × Int × (List UInt8) → Option ByteArray) : Int × Int × (List UInt8) → Option ByteArray := fun (at_6, u_8, x10) =>
 (bif ((at_6 == 20) || (decide (0 < u_8))) then
 (chk (inb (w64 (at_6 - 1)) 20) (f14 ((w64 (at_6 - 1)), (wu64 (u_8.tdiv 10)), (List.set x10 ((w64 (at_6 - 1)).toNat) (b8 (wu8 (wu64 (48 + (u_8.tmod 10)))))))))
 else
 (bif (decide (n < 0)) then
 (chk (inb (w64 (at_6 - 1)) 20) (m_num_Digits_j3 (w64 (at_6 - 1)) (List.set x10 ((w64 (at_6 - 1)).toNat) (b8 45))))
 else
 (m_num_Digits_j3 at_6 x10)))
def m_num_Digits_j1 (n : Int) (u_3 : Int) : Option ByteArray :=
 (loopN (m_num_Digits_b2 n) FU (20, u_3, (List.replicate 20 (b8 0))))
def m_num_Digits (n : Int) : Option ByteArray :=
 (bif (decide (n < 0)) then
 (m_num_Digits_j1 n (wu64 (0 - (wu64 n))))
 else
 (m_num_Digits_j1 n (wu64 n)))
def m_seglog_place_file (p__1 : ByteArray) (p__2 : Int) (gen : Int) (part : Int) : Option ByteArray :=
 (Option.bind (m_num_Digits gen) fun z2 => (chk (decide ((p__1 ++ (⟨#[46]⟩ : ByteArray)).size ≤ lim)) (chk (decide (z2.size ≤ lim)) (chk (decide (((p__1 ++ (⟨#[46]⟩ : ByteArray)) ++ z2).size ≤ lim)) (Option.bind (m_num_Digits part) fun z7 => (chk (decide ((((p__1 ++ (⟨#[46]⟩ : ByteArray)) ++ z2) ++ (⟨#[46]⟩ : ByteArray)).size ≤ lim)) (chk (decide (z7.size ≤ lim)) (some ((((p__1 ++ (⟨#[46]⟩ : ByteArray)) ++ z2) ++ (⟨#[46]⟩ : ByteArray)) ++ z7)))))))))
def m_seglog_Log_scan_j1 (out_3 : List (List UInt8)) (o8 : Oseglog_Log) (o11 : Odisk_Disk) : Option (Oseglog_Log × Odisk_Disk × (List (List UInt8))) :=
 (some ((⟨o8.place_name, o8.place_gen, o8.size, o8.last, o8.tail, ((out_3.length : Nat) : Int), o8.bytes⟩ : Oseglog_Log), o11, out_3))
def m_seglog_Log_scan_b3 (f28 : (List (List UInt8)) × Bool × Oseglog_Log × Odisk_Disk → Option (Oseglog_Log × Odisk_Disk × (List (List UInt8)))) : (List (List UInt8)) × Bool × Oseglog_Log × Odisk_Disk → Option (Oseglog_Log × Odisk_Disk × (List (List UInt8))) := fun (out_16, whole_21, o22, o25) =>
 (bif (whole_21 && (decide (o22.last < 999999))) then
 (Option.bind (m_seglog_place_file o22.place_name o22.place_gen o22.place_gen (w64 (o22.last + 1))) fun z40 => (chk (decide (z40.size ≤ lim)) (Option.bind (m_disk_Disk_Read o25 z40) fun z43 => (bif (!z43.2) then
 (m_seglog_Log_scan_j1 out_16 o22 o25)
 else
 (Option.bind (m_frame_All z43.1) fun z60 => (Option.bind (m_seglog_place_shorten o22.place_name o22.place_gen z40 z60.2.1 o25) fun z72 => (chk (decide (out_16.length + z60.1.length ≤ lim)) (f28 ((out_16 ++ z60.1), (z60.2.1 == ((z43.1.length : Nat) : Int)), (⟨o22.place_name, o22.place_gen, o22.size, (w64 (o22.last + 1)), z60.2.1, o22.count, (w64 (o22.bytes + z60.2.1))⟩ : Oseglog_Log), z72)))))))))
 else
 (m_seglog_Log_scan_j1 out_16 o22 o25))
def m_seglog_Log_scan (l : Oseglog_Log) (dk0 : Odisk_Disk) : Option (Oseglog_Log × Odisk_Disk × (List (List UInt8))) :=
 (loopN (m_seglog_Log_scan_b3) FU ([], true, l, dk0))
def m_seglog_Open_2 (a0 : Int) (n : Int) (b0v : Oseglog_Log) : Option Bool :=
 (some (decide (b0v.last < n)))
def m_disk_Disk_Sync (d : Odisk_Disk) : Option Odisk_Disk :=
 (some (⟨d.room, d.seen, d.seen, []⟩ : Odisk_Disk))
def m_seglog_Open_j1 (z48 : Oseglog_Log × Odisk_Disk × (List (List UInt8))) (o74 : Odisk_Disk) : Option (Odisk_Disk × (Option Oseglog_Log) × (List (List UInt8)) × Int) :=
 (some (o74, (some z48.1), z48.2.2, 0))
def m_seglog_Open (d : Odisk_Disk) (name : ByteArray) (size : Int) : Option (Odisk_Disk × (Option Oseglog_Log) × (List (List UInt8)) × Int) :=
 (Option.bind (gcall (!((decide (((name.size : Nat) : Int) < 1)) || (decide (2 < ((name.size : Nat) : Int))))) (m_strings_Contains name)) fun z6 => (bif (((decide (((name.size : Nat) : Int) < 1)) || (decide (2 < ((name.size : Nat) : Int)))) || z6) then
 (some (d, none, [], 1))
 else
 (Option.bind (m_seglog_place_holds name 0 d) fun z10 => (bif (z10.2.2 != 0) then
 (some (d, none, [], z10.2.2))
 else
 (Option.bind (m_disk_Disk_Loose d) fun z21 => (Option.bind (m_seglog_place_list name z10.1) fun z24 => (chk (decide (z24.size ≤ lim)) (Option.bind (m_seglog_place_shorten name z10.1 z24 z10.2.1 d) fun z27 => (Option.bind (m_seglog_place_remove z27 name z10.1 (fun x y => m_seglog_Open_1 x y z10.1)) fun z37 => (Option.bind (m_seglog_Log_scan (⟨name, z10.1, (max size 16), 0, 0, 0, 0⟩ : Oseglog_Log) z37) fun z48 => (Option.bind (m_seglog_place_remove z48.2.1 name z10.1 (fun x y => m_seglog_Open_2 x y z48.1)) fun z64 => (Option.bind (m_disk_Disk_Loose z64) fun z77 => (bif (z77 != z21) then
 (Option.bind (m_disk_Disk_Sync z64) fun z80 => (m_seglog_Open_j1 z48 z80))
 else
 (m_seglog_Open_j1 z48 z64))))))))))))))
def m_num_Text (b : List UInt8) (at_ : Int) (most : Int) : Option (ByteArray × Int × Int) :=
 (Option.bind (m_num_Num b at_) fun z1 => (bif (z1.2.2 != 0) then
 (some (ByteArray.empty, 0, z1.2.2))
 else
 (bif (decide ((max most 0) < z1.1)) then
 (some (ByteArray.empty, 0, 3))
 else
 (bif (decide ((w64 (((b.length : Nat) : Int) - z1.2.1)) < z1.1)) then
 (some (ByteArray.empty, 0, 4))
 else
 (chk (inle (w64 (z1.2.1 + z1.1)) b.length) (chk (decide (0 ≤ z1.2.1)) (chk (decide (z1.2.1.toNat ≤ (w64 (z1.2.1 + z1.1)).toNat)) (some ((⟨(List.drop z1.2.1.toNat (List.take ((w64 (z1.2.1 + z1.1)).toNat) b)).toArray⟩ : ByteArray), (w64 (z1.2.1 + z1.1)), 0)))))))))
def m_code_reader_text_j1 (r_ : Ocode_reader) (z2 : ByteArray × Int × Int)  : Option (Option (Ocode_reader × ByteArray)) :=
 (chk (i64b z2.2.1) (chk (decide (z2.1.size ≤ lim)) (some (some ((⟨r_.b, z2.2.1⟩ : Ocode_reader), z2.1)))))
def m_code_reader_text (r_ : Ocode_reader) : Option (Option (Ocode_reader × ByteArray)) :=
 (Option.bind (m_num_Text r_.b r_.at_ ((r_.b.length : Nat) : Int)) fun z2 => (bif (z2.2.2 != 0) then
 (some none)
 else
 (m_code_reader_text_j1 r_ z2 )))
def m_code_reader_num_j1 (r_ : Ocode_reader) (z2 : Int × Int × Int)  : Option (Option (Ocode_reader × Int)) :=
 (chk (i64b z2.2.1) (chk (i64b z2.1) (some (some ((⟨r_.b, z2.2.1⟩ : Ocode_reader), z2.1)))))
def m_code_reader_num (r_ : Ocode_reader) : Option (Option (Ocode_reader × Int)) :=
 (Option.bind (m_num_Num r_.b r_.at_) fun z2 => (bif (z2.2.2 != 0) then
 (some none)
 else
 (m_code_reader_num_j1 r_ z2 )))
def m_code_reader_int (r_ : Ocode_reader) : Option (Option (Ocode_reader × Int)) :=
 (Option.bind (m_code_reader_num r_) fun z1 => (optm z1
 (some none)
 fun o3 =>
 (some (some (o3.1, o3.2)))))
def m_code_reader_span_j2 (x29 : Span) (o31 : Ocode_reader)  : Option (Option (Ocode_reader × Span)) :=
 (some (some (o31, x29)))
def m_code_reader_span_j1 (x29 : Span) (o31 : Ocode_reader) : Option (Option (Ocode_reader × Span)) :=
 (bif (decide (x29.t < x29.f)) then
 (some none)
 else
 (m_code_reader_span_j2 x29 o31 ))
def m_code_reader_span (r_ : Ocode_reader) : Option (Option (Ocode_reader × Span)) :=
 (Option.bind (m_code_reader_int r_) fun z2 => (optm z2
 (some none)
 fun o4 =>
 (Option.bind (m_code_reader_num o4.1) fun z15 => (optm z15
 (some none)
 fun o17 =>
 (Option.bind (m_code_reader_num o17.1) fun z35 => (optm z35
 (some none)
 fun o37 =>
 (m_code_reader_span_j1 (⟨o4.2, o17.2, (w64 (o17.2 + o37.2))⟩ : Span) o37.1)))))))
def m_code_take_api_Span_b2 (f28 : (List Span) × Ocode_reader → Option (Option (Ocode_reader × (List Span)))) (i29 : Nat) : (List Span) × Ocode_reader → Option (Option (Ocode_reader × (List Span))) := fun (out_20, o25) =>
 (Option.bind (m_code_reader_span o25) fun z35 => (optm z35
 (some none)
 fun o37 =>
 (chk (decide (out_20.length + 1 ≤ lim)) (f28 ((out_20 ++ [o37.2]), o37.1)))))
def m_code_take_api_Span_j1 (o3 : Ocode_reader × Int)  : Option (Option (Ocode_reader × (List Span))) :=
 (forU (m_code_take_api_Span_b2) (fun (out_20, o25) =>
 (some (some (o25, out_20)))) o3.2.toNat 0 ([], o3.1))
def m_code_take_api_Span (r_ : Ocode_reader) : Option (Option (Ocode_reader × (List Span))) :=
 (Option.bind (m_code_reader_num r_) fun z1 => (optm z1
 (some none)
 fun o3 =>
 (bif (decide ((w64 (((o3.1.b.length : Nat) : Int) - o3.1.at_)) < o3.2)) then
 (some none)
 else
 (m_code_take_api_Span_j1 o3 ))))
def m_code_reader_ver_j1 (o4 : Ocode_reader × Int) (o17 : Ocode_reader × Int) (o29 : Ocode_reader × (List Span)) (x44 : Bool) (x45 : ByteArray) (o47 : Ocode_reader) : Option (Option (Ocode_reader × Ver)) :=
 (some (some (o47, (⟨(⟨o4.2, o17.2⟩ : Dot), o29.2, x44, x45⟩ : Ver))))
def m_code_reader_ver (r_ : Ocode_reader) : Option (Option (Ocode_reader × Ver)) :=
 (Option.bind (m_code_reader_int r_) fun z2 => (optm z2
 (some none)
 fun o4 =>
 (Option.bind (m_code_reader_num o4.1) fun z15 => (optm z15
 (some none)
 fun o17 =>
 (Option.bind (m_code_take_api_Span o17.1) fun z27 => (optm z27
 (some none)
 fun o29 =>
 (Option.bind (m_code_reader_num o29.1) fun z50 => (optm z50
 (some none)
 fun o52 =>
 (bif (o52.2 == 0) then
 (Option.bind (m_code_reader_text o52.1) fun z63 => (optm z63
 (some none)
 fun o65 =>
 (m_code_reader_ver_j1 o4 o17 o29 false o65.2 o65.1)))
 else
 (bif (o52.2 == 1) then
 (m_code_reader_ver_j1 o4 o17 o29 true ByteArray.empty o52.1)
 else
 (some none)))))))))))
def m_code_take_api_Ver_b2 (f28 : (List Ver) × Ocode_reader → Option (Option (Ocode_reader × (List Ver)))) (i29 : Nat) : (List Ver) × Ocode_reader → Option (Option (Ocode_reader × (List Ver))) := fun (out_20, o25) =>
 (Option.bind (m_code_reader_ver o25) fun z35 => (optm z35
 (some none)
 fun o37 =>
 (chk (decide (out_20.length + 1 ≤ lim)) (f28 ((out_20 ++ [o37.2]), o37.1)))))
def m_code_take_api_Ver_j1 (o3 : Ocode_reader × Int)  : Option (Option (Ocode_reader × (List Ver))) :=
 (forU (m_code_take_api_Ver_b2) (fun (out_20, o25) =>
 (some (some (o25, out_20)))) o3.2.toNat 0 ([], o3.1))
def m_code_take_api_Ver (r_ : Ocode_reader) : Option (Option (Ocode_reader × (List Ver))) :=
 (Option.bind (m_code_reader_num r_) fun z1 => (optm z1
 (some none)
 fun o3 =>
 (bif (decide ((w64 (((o3.1.b.length : Nat) : Int) - o3.1.at_)) < o3.2)) then
 (some none)
 else
 (m_code_take_api_Ver_j1 o3 ))))
def m_code_reader_rec (r_ : Ocode_reader) : Option (Option (Ocode_reader × Rec)) :=
 (Option.bind (m_code_reader_text r_) fun z2 => (optm z2
 (some none)
 fun o4 =>
 (Option.bind (m_code_take_api_Ver o4.1) fun z14 => (optm z14
 (some none)
 fun o16 =>
 (some (some (o16.1, (⟨o4.2, o16.2⟩ : Rec))))))))

def m_code_whole_api_Rec_1 (b0v0 : ByteArray) (b0v1 : List Ver) (b1v : Int) : Option (ByteArray × (List Ver) × Int) :=
 (some (ByteArray.empty, [], 2))
def m_span_Right_b1 (f4 : Span → Option Bool) (i5 : Nat) (ei5 : Span) : Span → Option Bool := fun x2 =>
 (bif (((((((decide (ei5.s < 1)) || (decide (16 < ei5.s))) || (decide (ei5.f < 1))) || (decide (ei5.t < ei5.f))) || (decide (4611686018427387904 < ei5.t))) || (decide (ei5.s < x2.s))) || ((ei5.s == x2.s) && (decide (ei5.f ≤ (w64 (x2.t + 1)))))) then
 (some false)
 else
 (f4 ei5))
def m_span_Right (l : List Span) : Option Bool :=
 (forI (m_span_Right_b1) (fun x2 =>
 (some (decide (((l.length : Nat) : Int) ≤ 1024)))) 0 l (⟨0, 0, 0⟩ : Span))
def m_span_Top_j6 (f3 : Int → Option Int) (top_10 : Int) : Option Int :=
 (f3 top_10)
def m_span_Top_b5 (s_ : Int) (f3 : Int → Option Int) (i4 : Nat) (ei4 : Span) : Int → Option Int := fun top_1 =>
 (bif (ei4.s == s_) then
 (m_span_Top_j6 f3 (max top_1 ei4.t))
 else
 (m_span_Top_j6 f3 top_1))
def m_span_Top (l : List Span) (s_ : Int) : Option Int :=
 (forI (m_span_Top_b5 s_) (fun top_1 =>
 (some top_1)) 0 l 0)
def m_vers_RightOne (v_ : Ver) : Option Bool :=
 (Option.bind (m_span_Right [(⟨v_.dot.s, v_.dot.n, v_.dot.n⟩ : Span)]) fun z6 => (Option.bind (gcall z6 (m_span_Right v_.past)) fun z11 => (Option.bind (gcall (z6 && z11) (m_span_Top v_.past v_.dot.s)) fun z22 => (some ((((z6 && z11) && (decide (z22 < v_.dot.n))) && (decide (((v_.val.size : Nat) : Int) ≤ 256))) && ((!v_.gone) || (v_.val == ByteArray.empty)))))))
def m_vers_before (a : Dot) (b : Dot) : Option Bool :=
 (some ((decide (a.s < b.s)) || ((a.s == b.s) && (decide (a.n < b.n)))))
def m_span_Has_b1 (d : Dot) (f2 : Unit → Option Bool) (i3 : Nat) (ei3 : Span) : Unit → Option Bool := fun _ =>
 (bif (((ei3.s == d.s) && (decide (ei3.f ≤ d.n))) && (decide (d.n ≤ ei3.t))) then
 (some true)
 else
 (f2 ()))
def m_span_Has (l : List Span) (d : Dot) : Option Bool :=
 (forI (m_span_Has_b1 d) (fun _ =>
 (some false)) 0 l ())
def m_vers_behind_b1 (d : Dot) (f2 : Unit → Option Bool) (i3 : Nat) (ei3 : Ver) : Unit → Option Bool := fun _ =>
 (Option.bind (m_span_Has (ei3.past) d) fun z13 => (bif z13 then
 (some true)
 else
 (f2 ())))
def m_vers_behind (d : Dot) (l : List Ver) : Option Bool :=
 (forI (m_vers_behind_b1 d) (fun _ =>
 (some false)) 0 l ())
def m_vers_Right_b1 (l : List Ver) (f1 : Unit → Option Bool) (i2 : Nat) (ei2 : Ver) : Unit → Option Bool := fun _ =>
 (Option.bind (m_vers_RightOne ei2) fun z12 => (chk (imp ((!(!z12)) && (decide (0 < ((i2 : Nat) : Int)))) (inb (w64 (((i2 : Nat) : Int) - 1)) l.length)) (Option.bind (gcall ((!(!z12)) && (decide (0 < ((i2 : Nat) : Int)))) (m_vers_before ((gt l ((w64 (((i2 : Nat) : Int) - 1)).toNat)).dot) (ei2.dot))) fun z30 => (Option.bind (gcall (!((!z12) || ((decide (0 < ((i2 : Nat) : Int))) && (!z30)))) (m_vers_behind (ei2.dot) l)) fun z38 => (bif (((!z12) || ((decide (0 < ((i2 : Nat) : Int))) && (!z30))) || z38) then
 (some false)
 else
 (f1 ()))))))
def m_vers_Right (l : List Ver) : Option Bool :=
 (forI (m_vers_Right_b1 l) (fun _ =>
 (some (decide (((l.length : Nat) : Int) ≤ 512)))) 0 l ())
def m_code_RightRec (r_ : Rec) : Option Bool :=
 (Option.bind (gcall ((decide (1 ≤ ((r_.key.size : Nat) : Int))) && (decide (((r_.key.size : Nat) : Int) ≤ 32))) (m_vers_Right r_.vers)) fun z9 => (some (((decide (1 ≤ ((r_.key.size : Nat) : Int))) && (decide (((r_.key.size : Nat) : Int) ≤ 32))) && z9)))
def m_code_whole_api_Rec_j1 (o7 : Ocode_reader × Rec)  : Option (Rec × Int) :=
 (some (o7.2, 0))
def m_code_whole_api_Rec (b : List UInt8) : Option (Rec × Int) :=
 (Option.bind (m_code_reader_rec (⟨b, 0⟩ : Ocode_reader)) fun z5 => (optm z5
 (Option.bind (m_code_whole_api_Rec_1 ByteArray.empty [] 0) fun z10 => (some ((⟨z10.1, z10.2.1⟩ : Rec), z10.2.2)))
 fun o7 =>
 (Option.bind (gcall (!(o7.1.at_ != ((b.length : Nat) : Int))) (m_code_RightRec o7.2)) fun z35 => (bif ((o7.1.at_ != ((b.length : Nat) : Int)) || (!z35)) then
 (Option.bind (m_code_whole_api_Rec_1 o7.2.key o7.2.vers 0) fun z41 => (some ((⟨z41.1, z41.2.1⟩ : Rec), z41.2.2)))
 else
 (m_code_whole_api_Rec_j1 o7 )))))









def m_code_Rec (b : List UInt8) : Option (Rec × Int) :=
 (Option.bind (m_code_whole_api_Rec b) fun z2 => (some (z2.1, z2.2)))

def m_store_Store_lay (s_ : Ostore_Store) (r_ : Rec) (b : List UInt8) : Option Ostore_Store :=
 (bif (decide (0 < ((r_.vers.length : Nat) : Int))) then
 (some (⟨s_.log, (mput r_.key b (mdel r_.key s_.keys))⟩ : Ostore_Store))
 else
 (some (⟨s_.log, (mdel r_.key s_.keys)⟩ : Ostore_Store)))
def m_store_Open_b1 (z1 : Odisk_Disk × (Option Oseglog_Log) × (List (List UInt8)) × Int) (f31 : Ostore_Store → Option (Odisk_Disk × (Option Ostore_Store) × Int)) (i32 : Nat) (ei32 : (List UInt8)) : Ostore_Store → Option (Odisk_Disk × (Option Ostore_Store) × Int) := fun o28 =>
 (Option.bind (m_code_Rec ei32) fun z41 => (bif (z41.2 != 0) then
 (some (z1.1, none, z41.2))
 else
 (Option.bind (m_store_Store_lay o28 z41.1 ei32) fun z53 => (f31 z53))))
def m_store_Open (d : Odisk_Disk) (name : ByteArray) (size : Int) : Option (Odisk_Disk × (Option Ostore_Store) × Int) :=
 (Option.bind (m_seglog_Open d name size) fun z1 => (bif (z1.2.2.2 != 0) then
 (some (z1.1, none, z1.2.2.2))
 else
 (Option.bind z1.2.1 fun z21 => (forI (m_store_Open_b1 z1) (fun o28 =>
 (some (z1.1, (some o28), 0))) 0 z1.2.2.1 (⟨z21, ([] : List (ByteArray × (List UInt8)))⟩ : Ostore_Store)))))
def m_firthlaw10_ver (s_ : Int) (n : Int) (gone : Bool) : Option Ver :=
 (some (⟨(⟨s_, n⟩ : Dot), [], gone, ByteArray.empty⟩ : Ver))
def m_num_PutNum_b1 (f7 : (List UInt8) × Int → Option (List UInt8)) : (List UInt8) × Int → Option (List UInt8) := fun (b_1, u_6) =>
 (bif (decide (127 < u_6)) then
 (chk (u8b (ior .u8 (wu8 u_6) 128)) (chk (decide (b_1.length + 1 ≤ lim)) (f7 ((b_1 ++ [(b8 (ior .u8 (wu8 u_6) 128))]), (ishr .u64 u_6 7)))))
 else
 (chk (decide (b_1.length + 1 ≤ lim)) (some (b_1 ++ [(b8 (wu8 u_6))]))))
def m_num_PutNum (n : Int) : Option (List UInt8) :=
 (loopN (m_num_PutNum_b1) FU ([], (wu64 (max n 0))))
def m_num_PutText (s_ : ByteArray) : Option (List UInt8) :=
 (Option.bind (m_num_PutNum ((s_.size : Nat) : Int)) fun z1 => (chk (decide (z1.length + s_.size ≤ lim)) (some (z1 ++ s_.data.toList))))
def m_code_writer_text (w_ : Ocode_writer) (s_ : ByteArray) : Option Ocode_writer :=
 (Option.bind (m_num_PutText s_) fun z2 => (chk (decide (w_.b.length + z2.length ≤ lim)) (some (⟨(w_.b ++ z2)⟩ : Ocode_writer))))
def m_code_writer_num (w_ : Ocode_writer) (n : Int) : Option Ocode_writer :=
 (Option.bind (m_num_PutNum n) fun z2 => (chk (decide (w_.b.length + z2.length ≤ lim)) (some (⟨(w_.b ++ z2)⟩ : Ocode_writer))))
def m_code_writer_int (w_ : Ocode_writer) (n : Int) : Option Ocode_writer :=
 (Option.bind (m_code_writer_num w_ n) fun z1 => (some z1))
def m_code_writer_span (w_ : Ocode_writer) (x_ : Span) : Option Ocode_writer :=
 (Option.bind (m_code_writer_int w_ x_.s) fun z2 => (Option.bind (m_code_writer_num z2 x_.f) fun z10 => (Option.bind (m_code_writer_num z10 (w64 (x_.t - x_.f))) fun z18 => (some z18))))
def m_code_put_api_Span_b1 (f14 : Ocode_writer → Option Ocode_writer) (i15 : Nat) (ei15 : Span) : Ocode_writer → Option Ocode_writer := fun o11 =>
 (Option.bind (m_code_writer_span o11 ei15) fun z22 => (f14 z22))
def m_code_put_api_Span (w_ : Ocode_writer) (l : List Span) : Option Ocode_writer :=
 (Option.bind (m_code_writer_int w_ ((l.length : Nat) : Int)) fun z1 => (forI (m_code_put_api_Span_b1) (fun o11 =>
 (some o11)) 0 l z1))
def m_code_writer_ver (w_ : Ocode_writer) (v_ : Ver) : Option Ocode_writer :=
 (Option.bind (m_code_writer_int w_ v_.dot.s) fun z2 => (Option.bind (m_code_writer_num z2 v_.dot.n) fun z10 => (Option.bind (m_code_put_api_Span z10 v_.past) fun z18 => (bif v_.gone then
 (Option.bind (m_code_writer_int z18 1) fun z27 => (some z27))
 else
 (Option.bind (m_code_writer_int z18 0) fun z35 => (Option.bind (m_code_writer_text z35 v_.val) fun z43 => (some z43)))))))
def m_code_put_api_Ver_b1 (f14 : Ocode_writer → Option Ocode_writer) (i15 : Nat) (ei15 : Ver) : Ocode_writer → Option Ocode_writer := fun o11 =>
 (Option.bind (m_code_writer_ver o11 ei15) fun z25 => (f14 z25))
def m_code_put_api_Ver (w_ : Ocode_writer) (l : List Ver) : Option Ocode_writer :=
 (Option.bind (m_code_writer_int w_ ((l.length : Nat) : Int)) fun z1 => (forI (m_code_put_api_Ver_b1) (fun o11 =>
 (some o11)) 0 l z1))
def m_code_writer_rec (w_ : Ocode_writer) (r_ : Rec) : Option Ocode_writer :=
 (Option.bind (m_code_writer_text w_ r_.key) fun z2 => (Option.bind (m_code_put_api_Ver z2 r_.vers) fun z10 => (some z10)))
def m_code_PutRec (r_ : Rec) : Option ((List UInt8) × Int) :=
 (Option.bind (m_code_RightRec r_) fun z2 => (bif (!z2) then
 (some ([], 1))
 else
 (Option.bind (m_code_writer_rec (⟨[]⟩ : Ocode_writer) r_) fun z7 => (some (z7.b, 0)))))





def m_frame_Put_b1 (z13 : Int) (f20 : List UInt8 → Option ((List UInt8) × Int)) (i21 : Nat) : List UInt8 → Option ((List UInt8) × Int) := fun out_15 =>
 (chk (decide (0 ≤ (w64 (8 * ((i21 : Nat) : Int))))) (chk (decide (out_15.length + 1 ≤ lim)) (f20 (out_15 ++ [(b8 (wu8 (ishr .u32 z13 (w64 (8 * ((i21 : Nat) : Int))))))]))))
def m_frame_Put (b : List UInt8) : Option ((List UInt8) × Int) :=
 (bif (decide (1048576 < ((b.length : Nat) : Int))) then
 (some ([], 3))
 else
 (Option.bind (m_num_PutNum ((b.length : Nat) : Int)) fun z2 => (Option.bind (m_frame_Sum ([z2, b] : List (List UInt8))) fun z13 => (forU (m_frame_Put_b1 z13) (fun out_15 =>
 (chk (decide (out_15.length + b.length ≤ lim)) (some ((out_15 ++ b), 0)))) 4 0 z2))))
def m_disk_Disk_Used_b1 : Int → (ByteArray × (List UInt8)) → Option Int := fun n_12 en23 =>
 (some (w64 (n_12 + ((en23.2.length : Nat) : Int))))
def m_disk_Disk_Used (d : Odisk_Disk) : Option Int :=
 (Option.bind (fldO (m_disk_Disk_Used_b1) 0 d.seen) (fun n_12 =>
 (some n_12)))
def m_disk_add (name : ByteArray) (b : List UInt8) : Option Cdisk_change_do :=
 (some (Cdisk_change_do.disk_add_1 name b))
def m_disk_Disk_Append (d : Odisk_Disk) (name : ByteArray) (b : List UInt8) : Option (Odisk_Disk × Int) :=
 (Option.bind (m_disk_right [name]) fun z3 => (bif (!z3) then
 (some (d, 70))
 else
 (Option.bind (m_disk_Disk_Used d) fun z7 => (bif (decide ((w64 (d.room - z7)) < ((b.length : Nat) : Int))) then
 (some (d, 72))
 else
 (Option.bind (m_slices_Clone_byte_byte b) fun z11 => (Option.bind (m_disk_add name z11) fun z26 => (Option.bind (m_disk_Disk_done d (⟨z26, name, z11⟩ : Ddisk_change)) fun z36 => (some (z36.1, z36.2)))))))))
def m_seglog_Log_Append_j2 (l : Oseglog_Log) (part_15 : Int) (tail_17 : Int) (f_40 : List UInt8) (e_45 : Int) (o47 : Odisk_Disk) : Option (Oseglog_Log × Odisk_Disk × Int) :=
 (bif (e_45 != 0) then
 (some (l, o47, e_45))
 else
 (some ((⟨l.place_name, l.place_gen, l.size, part_15, (w64 (tail_17 + ((f_40.length : Nat) : Int))), (w64 (l.count + 1)), (w64 (l.bytes + ((f_40.length : Nat) : Int)))⟩ : Oseglog_Log), o47, 0)))
def m_seglog_Log_Append_j1 (l : Oseglog_Log) (dk0 : Odisk_Disk) (z1 : (List UInt8) × Int) (part_15 : Int) (tail_17 : Int) : Option (Oseglog_Log × Odisk_Disk × Int) :=
 (bif (decide (999999 < part_15)) then
 (some (l, dk0, 72))
 else
 (Option.bind (m_seglog_place_file l.place_name l.place_gen l.place_gen part_15) fun z57 => (chk (decide (z57.size ≤ lim)) (Option.bind (m_disk_Disk_Append dk0 z57 z1.1) fun z60 => (m_seglog_Log_Append_j2 l part_15 tail_17 z1.1 z60.2 z60.1)))))
def m_seglog_Log_Append (l : Oseglog_Log) (b : List UInt8) (dk0 : Odisk_Disk) : Option (Oseglog_Log × Odisk_Disk × Int) :=
 (Option.bind (m_frame_Put b) fun z1 => (bif (z1.2 != 0) then
 (some (l, dk0, z1.2))
 else
 (bif ((l.last == 0) || ((decide (0 < l.tail)) && (decide ((w64 (l.size - l.tail)) < ((z1.1.length : Nat) : Int))))) then
 (m_seglog_Log_Append_j1 l dk0 z1 (w64 (l.last + 1)) 0)
 else
 (m_seglog_Log_Append_j1 l dk0 z1 l.last l.tail))))
def m_seglog_Log_Sync (l : Oseglog_Log) (dk0 : Odisk_Disk) : Option Odisk_Disk :=
 (Option.bind (m_disk_Disk_Sync dk0) fun z2 => (some z2))

def m_store_Store_Put_j1 (r_ : Rec) (b_15 : List UInt8) (e_20 : Int) (o22 : Ostore_Store) (o25 : Odisk_Disk) : Option (Ostore_Store × Odisk_Disk × Int) :=
 (bif (e_20 != 0) then
 (some (o22, o25, e_20))
 else
 (Option.bind (m_seglog_Log_Sync o22.log o25) fun z54 => (Option.bind (m_store_Store_lay o22 r_ b_15) fun z63 => (some (z63, z54, 0)))))
def m_store_Store_Put (s_ : Ostore_Store) (r_ : Rec) (dk0 : Odisk_Disk) : Option (Ostore_Store × Odisk_Disk × Int) :=
 (Option.bind (m_code_PutRec r_) fun z2 => (bif (z2.2 == 0) then
 (Option.bind (m_seglog_Log_Append s_.log z2.1 dk0) fun z35 => (m_store_Store_Put_j1 r_ z2.1 z35.2.2 (⟨z35.1, s_.keys⟩ : Ostore_Store) z35.2.1))
 else
 (m_store_Store_Put_j1 r_ z2.1 z2.2 s_ dk0)))

def m_store_Store_Keys (s_ : Ostore_Store) : Option (List ByteArray) :=
 (chk (decide (s_.keys.length ≤ lim)) (some (skeys s_.keys)))
def m_store_Store_Get (s_ : Ostore_Store) (key : ByteArray) : Option (List Ver) :=
 (Option.bind (m_code_Rec ((mget key s_.keys).getD [])) fun z9 => (some z9.1.vers))

def m_store_Store_Recs_b1 (s_ : Ostore_Store) (f18 : List Rec → Option (List Rec)) (i19 : Nat) (ei19 : ByteArray) : List Rec → Option (List Rec) := fun out_13 =>
 (Option.bind (m_store_Store_Get s_ ei19) fun z25 => (chk (decide (out_13.length + 1 ≤ lim)) (f18 (out_13 ++ [(⟨ei19, z25⟩ : Rec)]))))
def m_store_Store_Recs (s_ : Ostore_Store) : Option (List Rec) :=
 (Option.bind (m_store_Store_Keys s_) fun z1 => (forI (m_store_Store_Recs_b1 s_) (fun out_13 =>
 (some out_13)) 0 z1 []))
def m_vect_Covers (v_ : List Int) (d : Dot) : Option Bool :=
 (chk (imp (((decide (1 ≤ d.s)) && (decide (d.s ≤ ((v_.length : Nat) : Int)))) && (decide (1 ≤ d.n))) (inb (w64 (d.s - 1)) v_.length)) (some ((((decide (1 ≤ d.s)) && (decide (d.s ≤ ((v_.length : Nat) : Int)))) && (decide (1 ≤ d.n))) && (decide (d.n ≤ (gt v_ ((w64 (d.s - 1)).toNat)))))))
def m_seglog_Log_Rewrite_1 (g_ : Int) (a1 : Int) (b0v : Oseglog_Log) : Option Bool :=
 (some (g_ == b0v.place_gen))
def m_seglog_Log_Rewrite_2 (g_ : Int) (a1 : Int) (b0v : Oseglog_Log) : Option Bool :=
 (some (g_ == b0v.place_gen))
def m_seglog_Log_Rewrite_3 (g_ : Int) (a1 : Int) (b0v : Int) : Option Bool :=
 (some (g_ == b0v))
def m_seglog_Log_Rewrite_b2 (l : Oseglog_Log) (f27 : Oseglog_Log × Odisk_Disk → Option (Oseglog_Log × Odisk_Disk × Int)) (i28 : Nat) (ei28 : (List UInt8)) : Oseglog_Log × Odisk_Disk → Option (Oseglog_Log × Odisk_Disk × Int) := fun (o21, o24) =>
 (Option.bind (m_seglog_Log_Append o21 ei28 o24) fun z37 => (bif (z37.2.2 != 0) then
 (Option.bind (m_seglog_place_remove z37.2.1 z37.1.place_name z37.1.place_gen (fun x y => m_seglog_Log_Rewrite_1 x y z37.1)) fun z53 => (some (l, z53, z37.2.2)))
 else
 (f27 (z37.1, z37.2.1))))
def m_seglog_Log_Rewrite_b1 (l : Oseglog_Log) (dk0 : Odisk_Disk) (f1 : Unit → Option (Oseglog_Log × Odisk_Disk × Int)) (i2 : Nat) (ei2 : (List UInt8)) : Unit → Option (Oseglog_Log × Odisk_Disk × Int) := fun _ =>
 (bif (decide (1048576 < ((ei2.length : Nat) : Int))) then
 (some (l, dk0, 3))
 else
 (f1 ()))
def m_seglog_Log_Rewrite (l : Oseglog_Log) (list : List (List UInt8)) (dk0 : Odisk_Disk) : Option (Oseglog_Log × Odisk_Disk × Int) :=
 (forI (m_seglog_Log_Rewrite_b1 l dk0) (fun _ =>
 (bif (l.place_gen == 999999) then
 (some (l, dk0, 72))
 else
 (forI (m_seglog_Log_Rewrite_b2 l) (fun (o21, o24) =>
 (Option.bind (m_disk_Disk_Sync o24) fun z62 => (Option.bind (m_num_PutNum o21.place_gen) fun z71 => (Option.bind (m_frame_Put z71) fun z86 => (Option.bind (m_seglog_place_list l.place_name l.place_gen) fun z103 => (chk (decide (z103.size ≤ lim)) (Option.bind (m_disk_Disk_Append z62 z103 z86.1) fun z106 => (bif (z106.2 != 0) then
 (Option.bind (m_seglog_place_remove z106.1 o21.place_name o21.place_gen (fun x y => m_seglog_Log_Rewrite_2 x y o21)) fun z119 => (some (l, z119, z106.2)))
 else
 (Option.bind (m_disk_Disk_Sync z106.1) fun z128 => (Option.bind (m_seglog_place_remove z128 o21.place_name o21.place_gen (fun x y => m_seglog_Log_Rewrite_3 x y l.place_gen)) fun z138 => (Option.bind (m_disk_Disk_Sync z138) fun z146 => (some ((⟨o21.place_name, o21.place_gen, o21.size, o21.last, o21.tail, o21.count, o21.bytes⟩ : Oseglog_Log), z146, 0))))))))))))) 0 list ((⟨l.place_name, (w64 (l.place_gen + 1)), l.size, 0, 0, 0, 0⟩ : Oseglog_Log), dk0)))) 0 list ())
def m_store_Store_Trim_j5 (f22 : (List (List UInt8)) × (List (ByteArray × (List UInt8))) → Option (Ostore_Store × Odisk_Disk × Int)) (list_29 : List (List UInt8)) (m34 : List (ByteArray × (List UInt8))) : Option (Ostore_Store × Odisk_Disk × Int) :=
 (f22 (list_29, m34))
def m_store_Store_Trim_b4 (s_ : Ostore_Store) (floor : List Int) (f22 : (List (List UInt8)) × (List (ByteArray × (List UInt8))) → Option (Ostore_Store × Odisk_Disk × Int)) (i23 : Nat) (ei23 : Rec) : (List (List UInt8)) × (List (ByteArray × (List UInt8))) → Option (Ostore_Store × Odisk_Disk × Int) := fun (list_14, m19) =>
 (chk (imp ((((ei23.vers).length : Nat) : Int) == 1) (decide (0 < (ei23.vers).length))) (chk (imp (((((ei23.vers).length : Nat) : Int) == 1) && (gt (ei23.vers) 0).gone) (decide (0 < (ei23.vers).length))) (Option.bind (gcall (((((ei23.vers).length : Nat) : Int) == 1) && (gt (ei23.vers) 0).gone) (m_vect_Covers floor ((gt (ei23.vers) 0).dot))) fun z58 => (bif ((((((ei23.vers).length : Nat) : Int) == 1) && (gt (ei23.vers) 0).gone) && z58) then
 (m_store_Store_Trim_j5 f22 list_14 m19)
 else
 (chk (decide (list_14.length + 1 ≤ lim)) (m_store_Store_Trim_j5 f22 (list_14 ++ [((mget (ei23.key) (mput (ei23.key) ((mget (ei23.key) s_.keys).getD []) m19)).getD [])]) (mput (ei23.key) ((mget (ei23.key) s_.keys).getD []) m19)))))))
def m_store_Store_Trim (s_ : Ostore_Store) (floor : List Int) (dk0 : Odisk_Disk) : Option (Ostore_Store × Odisk_Disk × Int) :=
 (Option.bind (m_store_Store_Recs s_) fun z4 => (forI (m_store_Store_Trim_b4 s_ floor) (fun (list_14, m19) =>
 (Option.bind (m_seglog_Log_Rewrite s_.log list_14 dk0) fun z92 => (bif (z92.2.2 != 0) then
 (some ((⟨z92.1, s_.keys⟩ : Ostore_Store), z92.2.1, z92.2.2))
 else
 (some ((⟨z92.1, m19⟩ : Ostore_Store), z92.2.1, 0))))) 0 z4 ([], ([] : List (ByteArray × (List UInt8))))))
def m_seglog_Log_Count (l : Oseglog_Log) : Option Int :=
 (some l.count)
def m_store_Store_Waste (s_ : Ostore_Store) : Option Int :=
 (Option.bind (m_seglog_Log_Count s_.log) fun z6 => (some (w64 (z6 - ((s_.keys.length : Nat) : Int)))))
def m_firthlaw10_awake  : Option Bool :=
 (Option.bind (m_disk_New 1000) fun z1 => (Option.bind (m_store_Open z1 (⟨#[115]⟩ : ByteArray) 64) fun z10 => (bif (!((Option.isNone z10.2.1) || (z10.2.2 != 0))) then
 (Option.bind z10.2.1 fun z26 => (Option.bind (m_firthlaw10_ver 1 1 false) fun z29 => (Option.bind (m_store_Store_Put z26 (⟨(⟨#[107]⟩ : ByteArray), [z29]⟩ : Rec) z10.1) fun z45 => (bif (!(z45.2.2 != 0)) then
 (Option.bind (m_firthlaw10_ver 2 1 true) fun z58 => (Option.bind (m_store_Store_Put z45.1 (⟨(⟨#[108]⟩ : ByteArray), [z58]⟩ : Rec) z45.2.1) fun z74 => (bif (z74.2.2 != 0) then
 (some false)
 else
 (Option.bind (m_store_Store_Keys z74.1) fun z86 => (Option.bind (m_store_Store_Trim z74.1 [9, 1] z74.2.1) fun z103 => (bif ((((z86.length : Nat) : Int) == 2) && (z103.2.2 == 0)) then
 (Option.bind (m_store_Store_Keys z103.1) fun z118 => (Option.bind (gcall (((z118.length : Nat) : Int) == 1) (m_store_Store_Waste z103.1)) fun z130 => (bif ((((z118.length : Nat) : Int) == 1) && (z130 == 0)) then
 (Option.bind (m_store_Store_Get z103.1 (⟨#[107]⟩ : ByteArray)) fun z135 => (bif (((z135.length : Nat) : Int) == 1) then
 (Option.bind (m_store_Store_Get z103.1 (⟨#[108]⟩ : ByteArray)) fun z147 => (some (((z147.length : Nat) : Int) == 0)))
 else
 (some false)))
 else
 (some false))))
 else
 (some false)))))))
 else
 (some false)))))
 else
 (some false))))
def m_firthref03_Same_b1 (b : List Span) (f2 : Unit → Option Bool) (i3 : Nat) (ei3 : Span) : Unit → Option Bool := fun _ =>
 (chk (decide (i3 < b.length)) (bif (ei3 != (gt b i3)) then
 (some false)
 else
 (f2 ())))
def m_firthref03_Same (a : List Span) (b : List Span) : Option Bool :=
 (bif (((a.length : Nat) : Int) != ((b.length : Nat) : Int)) then
 (some false)
 else
 (forI (m_firthref03_Same_b1 b) (fun _ =>
 (some true)) 0 a ()))
def m_firthref05_SameOne (a : Ver) (b : Ver) : Option Bool :=
 (Option.bind (gcall (((a.dot == b.dot) && (a.gone == b.gone)) && (a.val == b.val)) (m_firthref03_Same a.past b.past)) fun z18 => (some ((((a.dot == b.dot) && (a.gone == b.gone)) && (a.val == b.val)) && z18)))
def m_firthref05_Same_b1 (b : List Ver) (f2 : Unit → Option Bool) (i3 : Nat) (ei3 : Ver) : Unit → Option Bool := fun _ =>
 (chk (decide (i3 < b.length)) (Option.bind (m_firthref05_SameOne ei3 (gt b i3)) fun z16 => (bif (!z16) then
 (some false)
 else
 (f2 ()))))
def m_firthref05_Same (a : List Ver) (b : List Ver) : Option Bool :=
 (bif (((a.length : Nat) : Int) != ((b.length : Nat) : Int)) then
 (some false)
 else
 (forI (m_firthref05_Same_b1 b) (fun _ =>
 (some true)) 0 a ()))
def m_firthref03_Dot (d : Dot) : Option Bool :=
 (some ((((decide (1 ≤ d.s)) && (decide (d.s ≤ 16))) && (decide (1 ≤ d.n))) && (decide (d.n ≤ 4611686018427387904))))
def m_firthref03_Right_b1 (l : List Span) (f2 : Unit → Option Bool) (i3 : Nat) (ei3 : Span) : Unit → Option Bool := fun _ =>
 (Option.bind (m_firthref03_Dot (⟨ei3.s, ei3.f⟩ : Dot)) fun z9 => (Option.bind (gcall (!(!z9)) (m_firthref03_Dot (⟨ei3.s, ei3.t⟩ : Dot))) fun z23 => (bif (((!z9) || (!z23)) || (decide (ei3.t < ei3.f))) then
 (some false)
 else
 (chk (imp (decide (0 < ((i3 : Nat) : Int))) (inb (w64 (((i3 : Nat) : Int) - 1)) l.length)) (bif ((decide (0 < ((i3 : Nat) : Int))) && ((decide (ei3.s < (gt l ((w64 (((i3 : Nat) : Int) - 1)).toNat)).s)) || ((ei3.s == (gt l ((w64 (((i3 : Nat) : Int) - 1)).toNat)).s) && (decide ((w64 (ei3.f - 1)) ≤ (gt l ((w64 (((i3 : Nat) : Int) - 1)).toNat)).t))))) then
 (some false)
 else
 (f2 ()))))))
def m_firthref03_Right (l : List Span) : Option Bool :=
 (bif (decide (1024 < ((l.length : Nat) : Int))) then
 (some false)
 else
 (forI (m_firthref03_Right_b1 l) (fun _ =>
 (some true)) 0 l ()))
def m_firthref03_Top_j6 (f3 : Int → Option Int) (n_10 : Int) : Option Int :=
 (f3 n_10)
def m_firthref03_Top_b5 (s_ : Int) (f3 : Int → Option Int) (i4 : Nat) (ei4 : Span) : Int → Option Int := fun n_1 =>
 (bif ((ei4.s == s_) && (decide (n_1 < ei4.t))) then
 (m_firthref03_Top_j6 f3 (ei4.t))
 else
 (m_firthref03_Top_j6 f3 n_1))
def m_firthref03_Top (l : List Span) (s_ : Int) : Option Int :=
 (forI (m_firthref03_Top_b5 s_) (fun n_1 =>
 (some n_1)) 0 l 0)
def m_firthref05_RightOne (v_ : Ver) : Option Bool :=
 (Option.bind (m_firthref03_Dot v_.dot) fun z2 => (Option.bind (gcall (!(!z2)) (m_firthref03_Right v_.past)) fun z7 => (Option.bind (gcall (!((!z2) || (!z7))) (m_firthref03_Top v_.past v_.dot.s)) fun z16 => (bif (((!z2) || (!z7)) || (decide (v_.dot.n ≤ z16))) then
 (some false)
 else
 (bif v_.gone then
 (some (v_.val == ByteArray.empty))
 else
 (some (decide (((v_.val.size : Nat) : Int) ≤ 256))))))))
def m_firthref03_Has_b1 (d : Dot) (f2 : Unit → Option Bool) (i3 : Nat) (ei3 : Span) : Unit → Option Bool := fun _ =>
 (bif (((ei3.s == d.s) && (decide (ei3.f ≤ d.n))) && (decide (d.n ≤ ei3.t))) then
 (some true)
 else
 (f2 ()))
def m_firthref03_Has (l : List Span) (d : Dot) : Option Bool :=
 (forI (m_firthref03_Has_b1 d) (fun _ =>
 (some false)) 0 l ())
def m_firthref05_Behind_b1 (d : Dot) (f2 : Unit → Option Bool) (i3 : Nat) (ei3 : Ver) : Unit → Option Bool := fun _ =>
 (Option.bind (m_firthref03_Has (ei3.past) d) fun z12 => (bif z12 then
 (some true)
 else
 (f2 ())))
def m_firthref05_Behind (l : List Ver) (d : Dot) : Option Bool :=
 (forI (m_firthref05_Behind_b1 d) (fun _ =>
 (some false)) 0 l ())
def m_firthref05_Less (a : Dot) (b : Dot) : Option Bool :=
 (bif (a.s != b.s) then
 (some (decide (a.s < b.s)))
 else
 (some (decide (a.n < b.n))))
def m_firthref05_Right_b1 (l : List Ver) (f2 : Unit → Option Bool) (i3 : Nat) (ei3 : Ver) : Unit → Option Bool := fun _ =>
 (Option.bind (m_firthref05_RightOne ei3) fun z12 => (Option.bind (gcall (!(!z12)) (m_firthref05_Behind l (ei3.dot))) fun z21 => (bif ((!z12) || z21) then
 (some false)
 else
 (chk (imp (decide (0 < ((i3 : Nat) : Int))) (inb (w64 (((i3 : Nat) : Int) - 1)) l.length)) (Option.bind (gcall (decide (0 < ((i3 : Nat) : Int))) (m_firthref05_Less ((gt l ((w64 (((i3 : Nat) : Int) - 1)).toNat)).dot) (ei3.dot))) fun z40 => (bif ((decide (0 < ((i3 : Nat) : Int))) && (!z40)) then
 (some false)
 else
 (f2 ())))))))
def m_firthref05_Right (l : List Ver) : Option Bool :=
 (bif (decide (512 < ((l.length : Nat) : Int))) then
 (some false)
 else
 (forI (m_firthref05_Right_b1 l) (fun _ =>
 (some true)) 0 l ()))
def m_firthref06_RightRec (r_ : Rec) : Option Bool :=
 (Option.bind (gcall ((r_.key != ByteArray.empty) && (decide (((r_.key.size : Nat) : Int) ≤ 32))) (m_firthref05_Right r_.vers)) fun z9 => (some (((r_.key != ByteArray.empty) && (decide (((r_.key.size : Nat) : Int) ≤ 32))) && z9)))
def m_firthref10_Own_b1 (f11 : List Ver → Option Rec) (i12 : Nat) (ei12 : Ver) : List Ver → Option Rec := fun x6 =>
 (chk (decide (0 + (ei12.past).length ≤ lim)) (chk (decide (x6.length + 1 ≤ lim)) (f11 (x6 ++ [ei12]))))
def m_firthref10_Own (r_ : Rec) : Option Rec :=
 (forI (m_firthref10_Own_b1) (fun x6 =>
 (some (⟨r_.key, x6⟩ : Rec))) 0 r_.vers [])

def m_firthlaw10_StoreKeeps (r_ : Rec) : Option Bool :=
 (Option.bind (m_firthlaw10_awake) fun z2 => (Option.bind (gcall (!(!z2)) (m_firthref06_RightRec r_)) fun z6 => (bif ((!z2) || (!z6)) then
 (Option.bind (m_firthlaw10_awake) fun z10 => (some z10))
 else
 (Option.bind (m_disk_New 4194304) fun z12 => (Option.bind (m_store_Open z12 (⟨#[115]⟩ : ByteArray) 64) fun z21 => (bif ((Option.isNone z21.2.1) || (z21.2.2 != 0)) then
 (some false)
 else
 (Option.bind z21.2.1 fun z36 => (Option.bind (m_firthref10_Own r_) fun z39 => (Option.bind (m_store_Store_Put z36 z39 z21.1) fun z49 => (bif (z49.2.2 != 0) then
 (some true)
 else
 (Option.bind (m_store_Store_Get z49.1 r_.key) fun z103 => (Option.bind (m_store_Store_Get z49.1 r_.key) fun z152 => (Option.bind (m_firthref05_Same z152 r_.vers) fun z162 => (some z162))))))))))))))
end Fw
end Go.Proofs.YtmafjpdiplfcmaaGreat
