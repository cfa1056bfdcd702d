/- What the functions compute, as Lean functions (printed by a program). No condition. -/
import Derived.Test.YtogcoieekhbfdaaE
import Derived.Test.YtogcoieekhbfdaaK14
import Derived.Test.YtogcoieekhbfdaaK15
import Derived.Test.YtogcoieekhbfdaaK16
import Derived.Test.YtogcoieekhbfdaaK17
import Derived.Test.YtogcoieekhbfdaaK18
import Derived.Test.YtogcoieekhbfdaaK23
import Derived.Test.YtogcoieekhbfdaaK24
namespace Go.Proofs.Ytogcoieekhbfdaa
namespace Fw
set_option linter.unusedVariables false
set_option linter.unusedSimpArgs false
set_option linter.unusedSectionVars false
open Go.RowKit
structure Odisk_Disk where
  room : Int
  safe_ : (List (ByteArray × (List UInt8)))
  seen : (List (ByteArray × (List UInt8)))
  loose : (List Ddisk_change)
  deriving Inhabited, DecidableEq
abbrev YSframe_frames_1 := (List (List UInt8) × Int)
abbrev YSseglog_place_parts_1 := (List ByteArray)
structure Oseglog_Log where
  place_name : ByteArray
  place_gen : Int
  size : Int
  last : Int
  tail : Int
  count : Int
  bytes : Int
  deriving Inhabited, DecidableEq
def m_disk_New (room : Int) : Option Odisk_Disk :=
 (some (⟨(min (max room 0) 1073741824), ([] : List (ByteArray × (List UInt8))), ([] : List (ByteArray × (List UInt8))), []⟩ : Odisk_Disk))
def m_internal_stringslite_IndexByte (s_ : ByteArray) (c_ : Int) : Option Int :=
 (some (ixb s_ c_))
def m_internal_stringslite_Index (s_ : ByteArray) : Option Int :=
 (bif ((⟨#[46]⟩ : ByteArray) == s_) then
 (some 0)
 else
 (Option.bind (m_internal_stringslite_IndexByte s_ 46) fun z2 => (some z2)))
def m_strings_Index (s_ : ByteArray) : Option Int :=
 (Option.bind (m_internal_stringslite_Index s_) fun z1 => (some z1))
def m_strings_Contains (s_ : ByteArray) : Option Bool :=
 (Option.bind (m_strings_Index s_) fun z1 => (some (decide (0 ≤ z1))))
def m_seglog_place_list (p__1 : ByteArray) (p__2 : Int) : Option ByteArray :=
 (some (p__1 ++ (⟨#[46, 109]⟩ : ByteArray)))
def m_slices_Clone_byte_byte (s_ : List UInt8) : Option (List UInt8) :=
 (nilc s_.isEmpty (
 (some []))
 ((chk (decide (0 + s_.length ≤ lim)) (some (([] : List UInt8) ++ s_)))))
def m_disk_Disk_Read (d : Odisk_Disk) (name : ByteArray) : Option ((List UInt8) × Bool) :=
 (Option.bind (m_slices_Clone_byte_byte ((mget name d.seen).getD [])) fun z9 => (some (z9, ((mget name d.seen).isSome))))
def m_num_Num_j1 (e_6 : Int) : Option (Int × Int × Int) :=
 (some (0, 0, e_6))
def m_num_Num_j11 (b : List UInt8) (at_ : Int) (n_9 : Int) (f10 : Int → Option (Int × Int × Int)) (i11 : Nat) (x_17 : Bool) : Option (Int × Int × Int) :=
 (bif x_17 then
 (m_num_Num_j1 2)
 else
 (bif (decide ((((gt (List.drop at_.toNat b) i11).toNat : Nat) : Int) < 128)) then
 (chk (decide (0 ≤ (w64 (7 * ((i11 : Nat) : Int))))) (some ((w64 (ior .u64 n_9 (ishl .u64 (wu64 (((gt (List.drop at_.toNat b) i11).toNat : Nat) : Int)) (w64 (7 * ((i11 : Nat) : Int)))))), (w64 ((w64 (at_ + ((i11 : Nat) : Int))) + 1)), 0)))
 else
 (chk (decide (0 ≤ (w64 (7 * ((i11 : Nat) : Int))))) (f10 (ior .u64 n_9 (ishl .u64 (wu64 (iand .u8 (((gt (List.drop at_.toNat b) i11).toNat : Nat) : Int) 127)) (w64 (7 * ((i11 : Nat) : Int)))))))))
def m_num_Num_b10 (b : List UInt8) (at_ : Int) (f10 : Int → Option (Int × Int × Int)) (i11 : Nat) (ei11 : UInt8) : Int → Option (Int × Int × Int) := fun n_9 =>
 (bif ((((i11 : Nat) : Int) == 8) && (decide (127 < ((ei11.toNat : Nat) : Int)))) then
 (m_num_Num_j11 b at_ n_9 f10 i11 ((((i11 : Nat) : Int) == 8) && (decide (127 < ((ei11.toNat : Nat) : Int)))))
 else
 (m_num_Num_j11 b at_ n_9 f10 i11 ((decide (0 < ((i11 : Nat) : Int))) && (((ei11.toNat : Nat) : Int) == 0))))
def m_num_Num (b : List UInt8) (at_ : Int) : Option (Int × Int × Int) :=
 (bif ((decide (at_ < 0)) || (decide (((b.length : Nat) : Int) < at_))) then
 (some (0, 0, 1))
 else
 (chk (inle at_ b.length) (forI (m_num_Num_b10 b at_) (fun n_9 =>
 (m_num_Num_j1 4)) 0 (List.drop at_.toNat b) 0)))
def m_frame_Sum_b21 (f21 : Int → Option Int) (i22 : Nat) : Int → Option Int := fun r_20 =>
 (f21 (ixor .u32 (ishr .u32 r_20 1) (iand .u32 3988292384 (wu32 (0 - (iand .u32 r_20 1))))))
def m_frame_Sum_b20 (f13 : Int → Option Int) (i14 : Nat) (ei14 : UInt8) : Int → Option Int := fun r_12 =>
 (forU (m_frame_Sum_b21) (fun r_20 =>
 (f13 r_20)) 8 0 (ixor .u32 r_12 (wu32 ((ei14.toNat : Nat) : Int))))
def m_frame_Sum_b16 (f2 : Int → Option Int) (i3 : Nat) (ei3 : (List UInt8)) : Int → Option Int := fun r_1 =>
 (forI (m_frame_Sum_b20) (fun r_12 =>
 (f2 r_12)) 0 ei3 r_1)
def m_frame_Sum (parts : List (List UInt8)) : Option Int :=
 (forI (m_frame_Sum_b16) (fun r_1 =>
 (some (icom .u32 r_1))) 0 parts 4294967295)
def m_frame_Next_b1 (b : List UInt8) (z1 : Int × Int × Int) (z15 : Int) (f17 : Unit → Option ((List UInt8) × Int × Int)) (i18 : Nat) : Unit → Option ((List UInt8) × Int × Int) := fun _ =>
 (chk (inb (w64 (z1.2.1 + ((i18 : Nat) : Int))) b.length) (chk (decide (0 ≤ (w64 (8 * ((i18 : Nat) : Int))))) (bif ((((gt b ((w64 (z1.2.1 + ((i18 : Nat) : Int))).toNat)).toNat : Nat) : Int) != (wu8 (ishr .u32 z15 (w64 (8 * ((i18 : Nat) : Int)))))) then
 (some ([], 0, 20))
 else
 (f17 ()))))
def m_frame_Next (b : List UInt8) (at_ : Int) : Option ((List UInt8) × Int × Int) :=
 (Option.bind (m_num_Num b at_) fun z1 => (bif (z1.2.2 != 0) then
 (chk (i64b z1.2.2) (some ([], 0, z1.2.2)))
 else
 (bif (decide (1048576 < z1.1)) then
 (some ([], 0, 3))
 else
 (bif (decide ((w64 (((b.length : Nat) : Int) - z1.2.1)) < (w64 (z1.1 + 4)))) then
 (some ([], 0, 4))
 else
 (chk (inle (w64 ((w64 (z1.2.1 + 4)) + z1.1)) b.length) (chk (decide (0 ≤ (w64 (z1.2.1 + 4)))) (chk (decide ((w64 (z1.2.1 + 4)).toNat ≤ (w64 ((w64 (z1.2.1 + 4)) + z1.1)).toNat)) (chk (inle z1.2.1 b.length) (chk (decide (0 ≤ at_)) (chk (decide (at_.toNat ≤ z1.2.1.toNat)) (Option.bind (m_frame_Sum [(List.drop at_.toNat (List.take z1.2.1.toNat b)), (List.drop ((w64 (z1.2.1 + 4)).toNat) (List.take ((w64 ((w64 (z1.2.1 + 4)) + z1.1)).toNat) b))]) fun z15 => (forU (m_frame_Next_b1 b z1 z15) (fun _ =>
 (chk (decide (0 + (List.drop ((w64 (z1.2.1 + 4)).toNat) (List.take ((w64 ((w64 (z1.2.1 + 4)) + z1.1)).toNat) b)).length ≤ lim)) (some ((([] : List UInt8) ++ (List.drop ((w64 (z1.2.1 + 4)).toNat) (List.take ((w64 ((w64 (z1.2.1 + 4)) + z1.1)).toNat) b))), (w64 ((w64 (z1.2.1 + 4)) + z1.1)), 0)))) 4 0 ()))))))))))))
def m_frame_frames_1_b1 (Y : YSframe_frames_1 → List UInt8 → Int → Option YSframe_frames_1) (b0v : List UInt8) (f10 : Int × Int × YSframe_frames_1 → Option (YSframe_frames_1 × Int)) : Int × Int × YSframe_frames_1 → Option (YSframe_frames_1 × Int) := fun (at_3, x5, o7) =>
 (bif (decide (at_3 < ((b0v.length : Nat) : Int))) then
 (Option.bind (m_frame_Next b0v at_3) fun z15 => (bif (!(z15.2.2 != 0)) then
 (Option.bind (Y o7 z15.1 z15.2.1) fun z36 => (f10 (z15.2.1, z15.2.2, z36)))
 else
 (some (o7, z15.2.2))))
 else
 (some (o7, x5)))
def m_frame_frames_1 (Y : YSframe_frames_1 → List UInt8 → Int → Option YSframe_frames_1) (sY : YSframe_frames_1) (b0v : List UInt8) (b1v : Int) : Option (YSframe_frames_1 × Int) :=
 (loopN (m_frame_frames_1_b1 Y b0v) FU (0, b1v, sY))

def m_frame_All_y (s : YSframe_frames_1) (b : List UInt8) (n : Int) : Option YSframe_frames_1 := chk (decide (s.1.length + 1 ≤ lim)) (some (s.1 ++ [b], n))
def m_frame_All (b : List UInt8) : Option (List (List UInt8) × Int × Int) := Option.bind (m_frame_frames_1 m_frame_All_y ([], 0) b 0) fun z => some (z.1.1, z.1.2, z.2)
def m_seglog_place_holds_b1 (f34 : Int → Option (Int × Int × Int)) (i35 : Nat) (ei35 : (List UInt8)) : Int → Option (Int × Int × Int) := fun gen_33 =>
 (Option.bind (m_num_Num ei35 0) fun z44 => (bif ((((z44.2.2 != 0) || (z44.2.1 != ((ei35.length : Nat) : Int))) || (decide (z44.1 < 1))) || (decide (999999 < z44.1))) then
 (some (0, 0, 2))
 else
 (f34 z44.1)))
def m_seglog_place_holds (p__1 : ByteArray) (p__2 : Int) (dk0 : Odisk_Disk) : Option (Int × Int × Int) :=
 (Option.bind (m_seglog_place_list p__1 p__2) fun z3 => (chk (decide (z3.size ≤ lim)) (Option.bind (m_disk_Disk_Read dk0 z3) fun z6 => (Option.bind (m_frame_All z6.1) fun z21 => (forI (m_seglog_place_holds_b1) (fun gen_33 =>
 (chk (i64b gen_33) (some (gen_33, z21.2.1, 0)))) 0 z21.1 0)))))
def m_disk_Disk_Loose (d : Odisk_Disk) : Option Int :=
 (some ((d.loose.length : Nat) : Int))
def m_disk_right_b1 (f1 : Unit → Option Bool) (i2 : Nat) (ei2 : ByteArray) : Unit → Option Bool := fun _ =>
 (bif ((decide (((ei2.size : Nat) : Int) < 1)) || (decide (16 < ((ei2.size : Nat) : Int)))) then
 (some false)
 else
 (f1 ()))
def m_disk_right (names : List ByteArray) : Option Bool :=
 (forI (m_disk_right_b1) (fun _ =>
 (some true)) 0 names ())
def m_disk_Disk_there (d : Odisk_Disk) (name : ByteArray) : Option Int :=
 (Option.bind (m_disk_right [name]) fun z3 => (bif (!z3) then
 (some 70)
 else
 (bif (!((mget name d.seen).isSome)) then
 (some 71)
 else
 (some 0))))
def m_disk_Disk_Cut_1 (f_ : List (ByteArray × (List UInt8))) (b0 : ByteArray) (b1 : Int) : Option (List (ByteArray × (List UInt8))) :=
 (chk (inle b1 (((mget b0 f_).getD []).length)) (some (mput b0 (List.take b1.toNat ((mget b0 f_).getD [])) f_)))
def m_slices_Clip_byte_byte (s_ : List UInt8) : Option (List UInt8) :=
 (some s_)
def m_disk_add_1 (f_ : List (ByteArray × (List UInt8))) (b0 : ByteArray) (b1 : (List UInt8)) : Option (List (ByteArray × (List UInt8))) :=
 (Option.bind (m_slices_Clip_byte_byte ((mget b0 f_).getD [])) fun z9 => (chk (decide (((mget b0 f_).getD []).length + b1.length ≤ lim)) (some (mput b0 (((mget b0 f_).getD []) ++ b1) f_))))
def m_disk_Disk_Remove_1 (f_ : List (ByteArray × (List UInt8))) (b0 : ByteArray) : Option (List (ByteArray × (List UInt8))) :=
 (some (mdel b0 f_))
def m_call_Cdisk_change_do (x : Cdisk_change_do) (f_ : List (ByteArray × (List UInt8))) : Option (List (ByteArray × (List UInt8))) :=
  match x with
  | .disk_Disk_Cut_1 a0 a1 => m_disk_Disk_Cut_1 f_ a0 a1
  | .disk_add_1 a0 a1 => m_disk_add_1 f_ a0 a1
  | .disk_Disk_Remove_1 a0 => m_disk_Disk_Remove_1 f_ a0
def m_disk_Disk_done (d : Odisk_Disk) (c_ : Ddisk_change) : Option (Odisk_Disk × Int) :=
 (Option.bind (m_call_Cdisk_change_do c_.do_ d.seen) fun z4 => (chk (decide (d.loose.length + 1 ≤ lim)) (some ((⟨d.room, d.safe_, z4, (d.loose ++ [c_])⟩ : Odisk_Disk), 0))))
def m_disk_Disk_Cut (d : Odisk_Disk) (name : ByteArray) (n : Int) : Option (Odisk_Disk × Int) :=
 (Option.bind (m_disk_Disk_there d name) fun z3 => (bif (z3 != 0) then
 (chk (i64b z3) (some (d, z3)))
 else
 (bif ((decide (n < 0)) || (decide (((((mget name d.seen).getD []).length : Nat) : Int) < n))) then
 (some (d, 1))
 else
 (Option.bind (m_disk_Disk_done d (⟨(Cdisk_change_do.disk_Disk_Cut_1 name n), ByteArray.empty, []⟩ : Ddisk_change)) fun z36 => (some (z36.1, z36.2))))))
def m_seglog_place_shorten (p__1 : ByteArray) (p__2 : Int) (f_ : ByteArray) (n : Int) (dk0 : Odisk_Disk) : Option Odisk_Disk :=
 (Option.bind (m_disk_Disk_Read dk0 f_) fun z2 => (bif (decide (n < ((z2.1.length : Nat) : Int))) then
 (Option.bind (m_disk_Disk_Cut dk0 f_ n) fun z13 => (some z13.1))
 else
 (some dk0)))
def m_disk_Disk_Names (d : Odisk_Disk) : Option (List ByteArray) :=
 (chk (decide (d.seen.length ≤ lim)) (some (skeys d.seen)))
def m_internal_stringslite_HasPrefix (s_ : ByteArray) (prefix_ : ByteArray) : Option Bool :=
 (chk (imp (decide (((prefix_.size : Nat) : Int) ≤ ((s_.size : Nat) : Int))) (decide (prefix_.size ≤ s_.size))) (some ((decide (((prefix_.size : Nat) : Int) ≤ ((s_.size : Nat) : Int))) && ((s_.extract 0 prefix_.size) == prefix_))))
def m_internal_stringslite_CutPrefix (s_ : ByteArray) (prefix_ : ByteArray) : Option (ByteArray × Bool) :=
 (Option.bind (m_internal_stringslite_HasPrefix s_ prefix_) fun z1 => (bif (!z1) then
 (some (s_, false))
 else
 (chk (decide (prefix_.size ≤ s_.size)) (some ((s_.extract prefix_.size s_.size), true)))))
def m_strings_CutPrefix (s_ : ByteArray) (prefix_ : ByteArray) : Option (ByteArray × Bool) :=
 (Option.bind (m_internal_stringslite_CutPrefix s_ prefix_) fun z1 => (some (z1.1, z1.2)))
def m_internal_stringslite_Cut (s_ : ByteArray) : Option (ByteArray × ByteArray × Bool) :=
 (Option.bind (m_internal_stringslite_Index s_) fun z1 => (bif (decide (0 ≤ z1)) then
 (chk (inle z1 s_.size) (chk (inle (w64 (z1 + 1)) s_.size) (some ((s_.extract 0 z1.toNat), (s_.extract ((w64 (z1 + 1)).toNat) s_.size), true))))
 else
 (some (s_, ByteArray.empty, false))))
def m_strings_Cut (s_ : ByteArray) : Option (ByteArray × ByteArray × Bool) :=
 (Option.bind (m_internal_stringslite_Cut s_) fun z1 => (some (z1.1, z1.2.1, z1.2.2)))
def m_num_Read_b1 (f22 : Int → Option (Int × Int)) (i23 : Nat) (ei23 : UInt8) : Int → Option (Int × Int) := fun n_20 =>
 (bif ((decide (((ei23.toNat : Nat) : Int) < 48)) || (decide (57 < ((ei23.toNat : Nat) : Int)))) then
 (some (0, 2))
 else
 (f22 (wu64 ((wu64 (10 * n_20)) + (wu64 (wu8 (((ei23.toNat : Nat) : Int) - 48)))))))
def m_num_Read (s_ : ByteArray) : Option (Int × Int) :=
 (chk (imp ((!(s_ == ByteArray.empty)) && (decide (1 < ((s_.size : Nat) : Int)))) (decide (0 < s_.size))) (bif (((s_ == ByteArray.empty) || ((decide (1 < ((s_.size : Nat) : Int))) && ((((gt s_.data.toList 0).toNat : Nat) : Int) == 48))) || (decide (19 < ((s_.size : Nat) : Int)))) then
 (some (0, 2))
 else
 (forI (m_num_Read_b1) (fun n_20 =>
 (bif (decide (9223372036854775808 ≤ n_20)) then
 (some (0, 2))
 else
 (some ((w64 n_20), 0)))) 0 (s_.data.toList) 0)))
def m_seglog_place_parts_1_b1 (Y : YSseglog_place_parts_1 → ByteArray → Int → Int → Option YSseglog_place_parts_1) (b0v1 : ByteArray) (f16 : YSseglog_place_parts_1 → Option YSseglog_place_parts_1) (i17 : Nat) (ei17 : ByteArray) : YSseglog_place_parts_1 → Option YSseglog_place_parts_1 := fun o13 =>
 (chk (decide ((b0v1 ++ (⟨#[46]⟩ : ByteArray)).size ≤ lim)) (Option.bind (m_strings_CutPrefix ei17 (b0v1 ++ (⟨#[46]⟩ : ByteArray))) fun z24 => (chk (decide (z24.1.size ≤ lim)) (Option.bind (m_strings_Cut z24.1) fun z27 => (chk (decide (z27.1.size ≤ lim)) (Option.bind (m_num_Read z27.1) fun z30 => (chk (decide (z27.2.1.size ≤ lim)) (Option.bind (m_num_Read z27.2.1) fun z33 => (bif ((((((z24.2 && z27.2.2) && (z30.2 == 0)) && (z33.2 == 0)) && (decide (z30.1 ≤ 999999))) && (decide (1 ≤ z33.1))) && (decide (z33.1 ≤ 999999))) then
 (chk (i64b z30.1) (chk (i64b z33.1) (Option.bind (Y o13 ei17 z30.1 z33.1) fun z54 => (f16 z54))))
 else
 (f16 o13))))))))))
def m_seglog_place_parts_1 (Y : YSseglog_place_parts_1 → ByteArray → Int → Int → Option YSseglog_place_parts_1) (sY : YSseglog_place_parts_1) (b0v0 : Odisk_Disk) (b0v1 : ByteArray) (b0v2 : Int) : Option YSseglog_place_parts_1 :=
 (Option.bind (m_disk_Disk_Names b0v0) fun z1 => (forI (m_seglog_place_parts_1_b1 Y b0v1) (fun o13 =>
 (some o13)) 0 z1 sY))
def m_disk_Disk_Remove (d : Odisk_Disk) (name : ByteArray) : Option (Odisk_Disk × Int) :=
 (Option.bind (m_disk_Disk_there d name) fun z2 => (bif (z2 != 0) then
 (chk (i64b z2) (some (d, z2)))
 else
 (Option.bind (m_disk_Disk_done d (⟨(Cdisk_change_do.disk_Disk_Remove_1 name), ByteArray.empty, []⟩ : Ddisk_change)) fun z11 => (some (z11.1, z11.2)))))

def m_seglog_parts_y (pred : Int → Int → Option Bool) (s : YSseglog_place_parts_1) (f : ByteArray) (g n : Int) : Option YSseglog_place_parts_1 := Option.bind (pred g n) fun q => bif q then chk (decide (s.length + 1 ≤ lim)) (some (s ++ [f])) else some s
def m_seglog_remove_b1 (k : Odisk_Disk → Option Odisk_Disk) (i : Nat) (f : ByteArray) (d : Odisk_Disk) : Option Odisk_Disk := Option.bind (m_disk_Disk_Remove d f) fun z => k z.1
def m_seglog_place_remove (d : Odisk_Disk) (name : ByteArray) (gen : Int) (pred : Int → Int → Option Bool) : Option Odisk_Disk := Option.bind (m_seglog_place_parts_1 (m_seglog_parts_y pred) [] d name gen) fun l => forI m_seglog_remove_b1 some 0 l d
def m_seglog_Open_1 (g_ : Int) (a1 : Int) (b0v : Int) : Option Bool :=
 (some (g_ != b0v))
def m_num_Digits_j3 (at_24 : Int) (x26 : List UInt8) : Option ByteArray :=
 (chk (inle at_24 20) (some (⟨(List.drop at_24.toNat x26).toArray⟩ : ByteArray)))
def m_num_Digits_b2 (n : Int) (f14 : Int × Int × (List UInt8) → Option ByteArray) : Int × Int × (List UInt8) → Option ByteArray := fun (at_6, u_8, x10) =>
 (bif ((at_6 == 20) || (decide (0 < u_8))) then
 (chk (inb (w64 (at_6 - 1)) 20) (f14 ((w64 (at_6 - 1)), (wu64 (u_8.tdiv 10)), (List.set x10 ((w64 (at_6 - 1)).toNat) (b8 (wu8 (wu64 (48 + (u_8.tmod 10)))))))))
 else
 (bif (decide (n < 0)) then
 (chk (inb (w64 (at_6 - 1)) 20) (m_num_Digits_j3 (w64 (at_6 - 1)) (List.set x10 ((w64 (at_6 - 1)).toNat) (b8 45))))
 else
 (m_num_Digits_j3 at_6 x10)))
def m_num_Digits_j1 (n : Int) (u_3 : Int) : Option ByteArray :=
 (loopN (m_num_Digits_b2 n) FU (20, u_3, (List.replicate 20 (b8 0))))
def m_num_Digits (n : Int) : Option ByteArray :=
 (bif (decide (n < 0)) then
 (m_num_Digits_j1 n (wu64 (0 - (wu64 n))))
 else
 (m_num_Digits_j1 n (wu64 n)))
def m_seglog_place_file (p__1 : ByteArray) (p__2 : Int) (gen : Int) (part : Int) : Option ByteArray :=
 (Option.bind (m_num_Digits gen) fun z2 => (chk (decide ((p__1 ++ (⟨#[46]⟩ : ByteArray)).size ≤ lim)) (chk (decide (z2.size ≤ lim)) (chk (decide (((p__1 ++ (⟨#[46]⟩ : ByteArray)) ++ z2).size ≤ lim)) (Option.bind (m_num_Digits part) fun z7 => (chk (decide ((((p__1 ++ (⟨#[46]⟩ : ByteArray)) ++ z2) ++ (⟨#[46]⟩ : ByteArray)).size ≤ lim)) (chk (decide (z7.size ≤ lim)) (some ((((p__1 ++ (⟨#[46]⟩ : ByteArray)) ++ z2) ++ (⟨#[46]⟩ : ByteArray)) ++ z7)))))))))
def m_seglog_Log_scan_j1 (out_3 : List (List UInt8)) (o8 : Oseglog_Log) (o11 : Odisk_Disk) : Option (Oseglog_Log × Odisk_Disk × (List (List UInt8))) :=
 (some ((⟨o8.place_name, o8.place_gen, o8.size, o8.last, o8.tail, ((out_3.length : Nat) : Int), o8.bytes⟩ : Oseglog_Log), o11, out_3))
def m_seglog_Log_scan_b3 (f28 : (List (List UInt8)) × Bool × Oseglog_Log × Odisk_Disk → Option (Oseglog_Log × Odisk_Disk × (List (List UInt8)))) : (List (List UInt8)) × Bool × Oseglog_Log × Odisk_Disk → Option (Oseglog_Log × Odisk_Disk × (List (List UInt8))) := fun (out_16, whole_21, o22, o25) =>
 (bif (whole_21 && (decide (o22.last < 999999))) then
 (Option.bind (m_seglog_place_file o22.place_name o22.place_gen o22.place_gen (w64 (o22.last + 1))) fun z40 => (chk (decide (z40.size ≤ lim)) (Option.bind (m_disk_Disk_Read o25 z40) fun z43 => (bif (!z43.2) then
 (m_seglog_Log_scan_j1 out_16 o22 o25)
 else
 (Option.bind (m_frame_All z43.1) fun z60 => (Option.bind (m_seglog_place_shorten o22.place_name o22.place_gen z40 z60.2.1 o25) fun z72 => (chk (decide (out_16.length + z60.1.length ≤ lim)) (f28 ((out_16 ++ z60.1), (z60.2.1 == ((z43.1.length : Nat) : Int)), (⟨o22.place_name, o22.place_gen, o22.size, (w64 (o22.last + 1)), z60.2.1, o22.count, (w64 (o22.bytes + z60.2.1))⟩ : Oseglog_Log), z72)))))))))
 else
 (m_seglog_Log_scan_j1 out_16 o22 o25))
def m_seglog_Log_scan (l : Oseglog_Log) (dk0 : Odisk_Disk) : Option (Oseglog_Log × Odisk_Disk × (List (List UInt8))) :=
 (loopN (m_seglog_Log_scan_b3) FU ([], true, l, dk0))
def m_seglog_Open_2 (a0 : Int) (n : Int) (b0v : Oseglog_Log) : Option Bool :=
 (some (decide (b0v.last < n)))
def m_disk_Disk_Sync (d : Odisk_Disk) : Option Odisk_Disk :=
 (some (⟨d.room, d.seen, d.seen, []⟩ : Odisk_Disk))
def m_seglog_Open_j1 (z48 : Oseglog_Log × Odisk_Disk × (List (List UInt8))) (o74 : Odisk_Disk) : Option (Odisk_Disk × (Option Oseglog_Log) × (List (List UInt8)) × Int) :=
 (some (o74, (some z48.1), z48.2.2, 0))
def m_seglog_Open (d : Odisk_Disk) (name : ByteArray) (size : Int) : Option (Odisk_Disk × (Option Oseglog_Log) × (List (List UInt8)) × Int) :=
 (Option.bind (gcall (!((decide (((name.size : Nat) : Int) < 1)) || (decide (2 < ((name.size : Nat) : Int))))) (m_strings_Contains name)) fun z6 => (bif (((decide (((name.size : Nat) : Int) < 1)) || (decide (2 < ((name.size : Nat) : Int)))) || z6) then
 (some (d, none, [], 1))
 else
 (Option.bind (m_seglog_place_holds name 0 d) fun z10 => (bif (z10.2.2 != 0) then
 (some (d, none, [], z10.2.2))
 else
 (Option.bind (m_disk_Disk_Loose d) fun z21 => (Option.bind (m_seglog_place_list name z10.1) fun z24 => (chk (decide (z24.size ≤ lim)) (Option.bind (m_seglog_place_shorten name z10.1 z24 z10.2.1 d) fun z27 => (Option.bind (m_seglog_place_remove z27 name z10.1 (fun x y => m_seglog_Open_1 x y z10.1)) fun z37 => (Option.bind (m_seglog_Log_scan (⟨name, z10.1, (max size 16), 0, 0, 0, 0⟩ : Oseglog_Log) z37) fun z48 => (Option.bind (m_seglog_place_remove z48.2.1 name z10.1 (fun x y => m_seglog_Open_2 x y z48.1)) fun z64 => (Option.bind (m_disk_Disk_Loose z64) fun z77 => (bif (z77 != z21) then
 (Option.bind (m_disk_Disk_Sync z64) fun z80 => (m_seglog_Open_j1 z48 z80))
 else
 (m_seglog_Open_j1 z48 z64))))))))))))))
def m_num_PutNum_b1 (f7 : (List UInt8) × Int → Option (List UInt8)) : (List UInt8) × Int → Option (List UInt8) := fun (b_1, u_6) =>
 (bif (decide (127 < u_6)) then
 (chk (u8b (ior .u8 (wu8 u_6) 128)) (chk (decide (b_1.length + 1 ≤ lim)) (f7 ((b_1 ++ [(b8 (ior .u8 (wu8 u_6) 128))]), (ishr .u64 u_6 7)))))
 else
 (chk (decide (b_1.length + 1 ≤ lim)) (some (b_1 ++ [(b8 (wu8 u_6))]))))
def m_num_PutNum (n : Int) : Option (List UInt8) :=
 (loopN (m_num_PutNum_b1) FU ([], (wu64 (max n 0))))
def m_frame_Put_b1 (z13 : Int) (f20 : List UInt8 → Option ((List UInt8) × Int)) (i21 : Nat) : List UInt8 → Option ((List UInt8) × Int) := fun out_15 =>
 (chk (decide (0 ≤ (w64 (8 * ((i21 : Nat) : Int))))) (chk (decide (out_15.length + 1 ≤ lim)) (f20 (out_15 ++ [(b8 (wu8 (ishr .u32 z13 (w64 (8 * ((i21 : Nat) : Int))))))]))))
def m_frame_Put (b : List UInt8) : Option ((List UInt8) × Int) :=
 (bif (decide (1048576 < ((b.length : Nat) : Int))) then
 (some ([], 3))
 else
 (Option.bind (m_num_PutNum ((b.length : Nat) : Int)) fun z2 => (Option.bind (m_frame_Sum ([z2, b] : List (List UInt8))) fun z13 => (forU (m_frame_Put_b1 z13) (fun out_15 =>
 (chk (decide (out_15.length + b.length ≤ lim)) (some ((out_15 ++ b), 0)))) 4 0 z2))))
def m_disk_Disk_Used_b1 : Int → (ByteArray × (List UInt8)) → Option Int := fun n_12 en23 =>
 (some (w64 (n_12 + ((en23.2.length : Nat) : Int))))
def m_disk_Disk_Used (d : Odisk_Disk) : Option Int :=
 (Option.bind (fldO (m_disk_Disk_Used_b1) 0 d.seen) (fun n_12 =>
 (some n_12)))
def m_disk_add (name : ByteArray) (b : List UInt8) : Option Cdisk_change_do :=
 (some (Cdisk_change_do.disk_add_1 name b))
def m_disk_Disk_Append (d : Odisk_Disk) (name : ByteArray) (b : List UInt8) : Option (Odisk_Disk × Int) :=
 (Option.bind (m_disk_right [name]) fun z3 => (bif (!z3) then
 (some (d, 70))
 else
 (Option.bind (m_disk_Disk_Used d) fun z7 => (bif (decide ((w64 (d.room - z7)) < ((b.length : Nat) : Int))) then
 (some (d, 72))
 else
 (Option.bind (m_slices_Clone_byte_byte b) fun z11 => (Option.bind (m_disk_add name z11) fun z26 => (Option.bind (m_disk_Disk_done d (⟨z26, name, z11⟩ : Ddisk_change)) fun z36 => (some (z36.1, z36.2)))))))))
def m_seglog_Log_Append_j2 (l : Oseglog_Log) (part_15 : Int) (tail_17 : Int) (f_40 : List UInt8) (e_45 : Int) (o47 : Odisk_Disk) : Option (Oseglog_Log × Odisk_Disk × Int) :=
 (bif (e_45 != 0) then
 (some (l, o47, e_45))
 else
 (some ((⟨l.place_name, l.place_gen, l.size, part_15, (w64 (tail_17 + ((f_40.length : Nat) : Int))), (w64 (l.count + 1)), (w64 (l.bytes + ((f_40.length : Nat) : Int)))⟩ : Oseglog_Log), o47, 0)))
def m_seglog_Log_Append_j1 (l : Oseglog_Log) (dk0 : Odisk_Disk) (z1 : (List UInt8) × Int) (part_15 : Int) (tail_17 : Int) : Option (Oseglog_Log × Odisk_Disk × Int) :=
 (bif (decide (999999 < part_15)) then
 (some (l, dk0, 72))
 else
 (Option.bind (m_seglog_place_file l.place_name l.place_gen l.place_gen part_15) fun z57 => (chk (decide (z57.size ≤ lim)) (Option.bind (m_disk_Disk_Append dk0 z57 z1.1) fun z60 => (m_seglog_Log_Append_j2 l part_15 tail_17 z1.1 z60.2 z60.1)))))
def m_seglog_Log_Append (l : Oseglog_Log) (b : List UInt8) (dk0 : Odisk_Disk) : Option (Oseglog_Log × Odisk_Disk × Int) :=
 (Option.bind (m_frame_Put b) fun z1 => (bif (z1.2 != 0) then
 (some (l, dk0, z1.2))
 else
 (bif ((l.last == 0) || ((decide (0 < l.tail)) && (decide ((w64 (l.size - l.tail)) < ((z1.1.length : Nat) : Int))))) then
 (m_seglog_Log_Append_j1 l dk0 z1 (w64 (l.last + 1)) 0)
 else
 (m_seglog_Log_Append_j1 l dk0 z1 l.last l.tail))))
def m_seglog_Log_Count (l : Oseglog_Log) : Option Int :=
 (some l.count)
def m_seglog_Log_Rewrite_1 (g_ : Int) (a1 : Int) (b0v : Oseglog_Log) : Option Bool :=
 (some (g_ == b0v.place_gen))
def m_seglog_Log_Rewrite_2 (g_ : Int) (a1 : Int) (b0v : Oseglog_Log) : Option Bool :=
 (some (g_ == b0v.place_gen))
def m_seglog_Log_Rewrite_3 (g_ : Int) (a1 : Int) (b0v : Int) : Option Bool :=
 (some (g_ == b0v))
def m_seglog_Log_Rewrite_b2 (l : Oseglog_Log) (f27 : Oseglog_Log × Odisk_Disk → Option (Oseglog_Log × Odisk_Disk × Int)) (i28 : Nat) (ei28 : (List UInt8)) : Oseglog_Log × Odisk_Disk → Option (Oseglog_Log × Odisk_Disk × Int) := fun (o21, o24) =>
 (Option.bind (m_seglog_Log_Append o21 ei28 o24) fun z37 => (bif (z37.2.2 != 0) then
 (Option.bind (m_seglog_place_remove z37.2.1 z37.1.place_name z37.1.place_gen (fun x y => m_seglog_Log_Rewrite_1 x y z37.1)) fun z53 => (some (l, z53, z37.2.2)))
 else
 (f27 (z37.1, z37.2.1))))
def m_seglog_Log_Rewrite_b1 (l : Oseglog_Log) (dk0 : Odisk_Disk) (f1 : Unit → Option (Oseglog_Log × Odisk_Disk × Int)) (i2 : Nat) (ei2 : (List UInt8)) : Unit → Option (Oseglog_Log × Odisk_Disk × Int) := fun _ =>
 (bif (decide (1048576 < ((ei2.length : Nat) : Int))) then
 (some (l, dk0, 3))
 else
 (f1 ()))
def m_seglog_Log_Rewrite (l : Oseglog_Log) (list : List (List UInt8)) (dk0 : Odisk_Disk) : Option (Oseglog_Log × Odisk_Disk × Int) :=
 (forI (m_seglog_Log_Rewrite_b1 l dk0) (fun _ =>
 (bif (l.place_gen == 999999) then
 (some (l, dk0, 72))
 else
 (forI (m_seglog_Log_Rewrite_b2 l) (fun (o21, o24) =>
 (Option.bind (m_disk_Disk_Sync o24) fun z62 => (Option.bind (m_num_PutNum o21.place_gen) fun z71 => (Option.bind (m_frame_Put z71) fun z86 => (Option.bind (m_seglog_place_list l.place_name l.place_gen) fun z103 => (chk (decide (z103.size ≤ lim)) (Option.bind (m_disk_Disk_Append z62 z103 z86.1) fun z106 => (bif (z106.2 != 0) then
 (Option.bind (m_seglog_place_remove z106.1 o21.place_name o21.place_gen (fun x y => m_seglog_Log_Rewrite_2 x y o21)) fun z119 => (some (l, z119, z106.2)))
 else
 (Option.bind (m_disk_Disk_Sync z106.1) fun z128 => (Option.bind (m_seglog_place_remove z128 o21.place_name o21.place_gen (fun x y => m_seglog_Log_Rewrite_3 x y l.place_gen)) fun z138 => (Option.bind (m_disk_Disk_Sync z138) fun z146 => (some ((⟨o21.place_name, o21.place_gen, o21.size, o21.last, o21.tail, o21.count, o21.bytes⟩ : Oseglog_Log), z146, 0))))))))))))) 0 list ((⟨l.place_name, (w64 (l.place_gen + 1)), l.size, 0, 0, 0, 0⟩ : Oseglog_Log), dk0)))) 0 list ())
def m_firthlaw09_awake  : Option Bool :=
 (Option.bind (m_disk_New 100) fun z1 => (Option.bind (m_seglog_Open z1 (⟨#[97]⟩ : ByteArray) 16) fun z10 => (bif (!(((Option.isNone z10.2.1) || (z10.2.2.2 != 0)) || (((z10.2.2.1.length : Nat) : Int) != 0))) then
 (Option.bind z10.2.1 fun z33 => (Option.bind (m_seglog_Log_Append z33 ([120, 121, 122] : List UInt8) z10.1) fun z40 => (bif (!(z40.2.2 != 0)) then
 (Option.bind (m_seglog_Log_Append z40.1 ([49, 50, 51, 52, 53, 54, 55, 56] : List UInt8) z40.2.1) fun z57 => (bif (z57.2.2 != 0) then
 (some false)
 else
 (Option.bind (m_seglog_Log_Count z57.1) fun z69 => (Option.bind (m_seglog_Log_Rewrite z57.1 [([113] : List UInt8)] z57.2.1) fun z82 => (Option.bind (m_seglog_Open z82.2.1 (⟨#[97]⟩ : ByteArray) 16) fun z93 => (chk (imp ((((z69 == 2) && (z82.2.2 == 0)) && (z93.2.2.2 == 0)) && (((z93.2.2.1.length : Nat) : Int) == 1)) (decide (0 < z93.2.2.1.length))) (bif (((((z69 == 2) && (z82.2.2 == 0)) && (z93.2.2.2 == 0)) && (((z93.2.2.1.length : Nat) : Int) == 1)) && ((⟨(gt z93.2.2.1 0).toArray⟩ : ByteArray) == (⟨#[113]⟩ : ByteArray))) then
 (Option.bind (m_disk_Disk_Names z93.1) fun z127 => (some (((z127.length : Nat) : Int) == 2)))
 else
 (some false))))))))
 else
 (some false))))
 else
 (some false))))
def m_firthref02_Same_b1 (b : List (List UInt8)) (f2 : Unit → Option Bool) (i3 : Nat) (ei3 : (List UInt8)) : Unit → Option Bool := fun _ =>
 (chk (decide (i3 < b.length)) (bif ((⟨ei3.toArray⟩ : ByteArray) != (⟨(gt b i3).toArray⟩ : ByteArray)) then
 (some false)
 else
 (f2 ())))
def m_firthref02_Same (a : List (List UInt8)) (b : List (List UInt8)) : Option Bool :=
 (bif (((a.length : Nat) : Int) != ((b.length : Nat) : Int)) then
 (some false)
 else
 (forI (m_firthref02_Same_b1 b) (fun _ =>
 (some true)) 0 a ()))
def m_firthlaw09_SeglogApart_j2 (a : List (List UInt8)) (again_157 : List (List UInt8)) (o162 : Odisk_Disk) (o165 : Oseglog_Log) : Option Bool :=
 (Option.bind (m_seglog_Open o162 (⟨#[97]⟩ : ByteArray) 20) fun z180 => (Option.bind (m_seglog_Open z180.1 (⟨#[97, 97]⟩ : ByteArray) 20) fun z196 => (Option.bind (gcall ((z180.2.2.2 == 0) && (z196.2.2.2 == 0)) (m_firthref02_Same z180.2.2.1 a)) fun z217 => (Option.bind (gcall (((z180.2.2.2 == 0) && (z196.2.2.2 == 0)) && z217) (m_firthref02_Same z196.2.2.1 again_157)) fun z222 => (some ((((z180.2.2.2 == 0) && (z196.2.2.2 == 0)) && z217) && z222))))))
def m_firthlaw09_SeglogApart_b1 (a : List (List UInt8)) (b : List (List UInt8)) (again : List (List UInt8)) (f71 : Int × Odisk_Disk × Oseglog_Log × Oseglog_Log → Option Bool) : Int × Odisk_Disk × Oseglog_Log × Oseglog_Log → Option Bool := fun (i_60, o62, o65, o68) =>
 (bif ((decide (i_60 < ((a.length : Nat) : Int))) || (decide (i_60 < ((b.length : Nat) : Int)))) then
 (chk (imp (decide (i_60 < ((a.length : Nat) : Int))) (inb i_60 a.length)) (bif (decide (i_60 < ((a.length : Nat) : Int))) then
 (chk (inb i_60 a.length) (Option.bind (m_seglog_Log_Append o68 (gt a i_60.toNat) o62) fun z91 => (chk (imp ((!(z91.2.2 != 0)) && (decide (i_60 < ((b.length : Nat) : Int)))) (inb i_60 b.length)) (bif ((!(z91.2.2 != 0)) && (decide (i_60 < ((b.length : Nat) : Int)))) then
 (chk (inb i_60 b.length) (Option.bind (m_seglog_Log_Append o65 (gt b i_60.toNat) z91.2.1) fun z118 => (bif (z118.2.2 != 0) then
 (some true)
 else
 (f71 ((w64 (i_60 + 1)), z118.2.1, z118.1, z91.1)))))
 else
 (bif ((z91.2.2 != 0) || false) then
 (some true)
 else
 (f71 ((w64 (i_60 + 1)), z91.2.1, o65, z91.1)))))))
 else
 (chk (imp (decide (i_60 < ((b.length : Nat) : Int))) (inb i_60 b.length)) (bif (decide (i_60 < ((b.length : Nat) : Int))) then
 (chk (inb i_60 b.length) (Option.bind (m_seglog_Log_Append o65 (gt b i_60.toNat) o62) fun z143 => (bif (z143.2.2 != 0) then
 (some true)
 else
 (f71 ((w64 (i_60 + 1)), z143.2.1, z143.1, o68)))))
 else
 (f71 ((w64 (i_60 + 1)), o62, o65, o68))))))
 else
 (Option.bind (m_seglog_Log_Rewrite o65 again o62) fun z168 => (bif (z168.2.2 != 0) then
 (m_firthlaw09_SeglogApart_j2 a b z168.2.1 z168.1)
 else
 (m_firthlaw09_SeglogApart_j2 a again z168.2.1 z168.1))))
def m_firthlaw09_SeglogApart (a : List (List UInt8)) (b : List (List UInt8)) (again : List (List UInt8)) : Option Bool :=
 (Option.bind (m_firthlaw09_awake) fun z1 => (bif (!z1) then
 (some false)
 else
 (Option.bind (m_disk_New 262144) fun z4 => (Option.bind (m_seglog_Open z4 (⟨#[97]⟩ : ByteArray) 20) fun z13 => (Option.bind (m_seglog_Open z13.1 (⟨#[97, 97]⟩ : ByteArray) 20) fun z29 => (bif ((((Option.isNone z13.2.1) || (Option.isNone z29.2.1)) || (z13.2.2.2 != 0)) || (z29.2.2.2 != 0)) then
 (some false)
 else
 (Option.bind z29.2.1 fun z52 => (Option.bind z13.2.1 fun z55 => (loopN (m_firthlaw09_SeglogApart_b1 a b again) FU (0, z29.1, z52, z55))))))))))
end Fw
end Go.Proofs.Ytogcoieekhbfdaa
