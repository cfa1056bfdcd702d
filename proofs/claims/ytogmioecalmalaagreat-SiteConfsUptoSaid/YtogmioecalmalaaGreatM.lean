/- What the functions compute, as Lean functions (printed by a program). No condition. -/
import Derived.Test.YtogmioecalmalaaGreatE
import Derived.Test.YtogmioecalmalaaGreatK14
import Derived.Test.YtogmioecalmalaaGreatK15
import Derived.Test.YtogmioecalmalaaGreatK16
import Derived.Test.YtogmioecalmalaaGreatK18
import Derived.Test.YtogmioecalmalaaGreatK20
import Derived.Test.YtogmioecalmalaaGreatK23
import Derived.Test.YtogmioecalmalaaGreatK24
import Derived.Test.YtogmioecalmalaaGreatK33
import Derived.Test.YtogmioecalmalaaGreatK34
import Derived.Test.YtogmioecalmalaaGreatK36
import Derived.Test.YtogmioecalmalaaGreatK37
import Derived.Test.YtogmioecalmalaaGreatK40
import Derived.Test.YtogmioecalmalaaGreatK44
namespace Go.Proofs.YtogmioecalmalaaGreat
namespace Fw
set_option linter.unusedVariables false
set_option linter.unusedSimpArgs false
set_option linter.unusedSectionVars false
open Go.RowKit
structure Odisk_Disk where
  room : Int
  safe_ : (List (ByteArray × (List UInt8)))
  seen : (List (ByteArray × (List UInt8)))
  loose : (List Ddisk_change)
  deriving Inhabited, DecidableEq
structure Oinbox_Inbox where
  room : Int
  list : (List Dinbox_Far)
  deriving Inhabited, DecidableEq
structure OTree where
  leaves : List (Option (List (ByteArray × Rec)))
  sums : List ((Int × Int × Int) × Int)
  deriving Inhabited, DecidableEq
structure Opull_Cut where
  id : Int
  vec : (List Int)
  tree : OTree
  deriving Inhabited, DecidableEq
structure Osite_Site where
  c_sites : Int
  c_links : (List Dapi_arr2)
  c_nodes : Int
  c_members : (List Int)
  c_n : Int
  c_r : Int
  c_w : Int
  c_group : Int
  c_secret : ByteArray
  c_room : Int
  c_seg : Int
  c_cap : Int
  c_pend : Int
  c_wait : Int
  c_timeout : Int
  c_hintAfter : Int
  c_base : Int
  self : Int
  links : (List Int)
  ids : Int
  deriving Inhabited, DecidableEq
abbrev YSframe_frames_1 := (List (List UInt8) × Int)
abbrev YSseglog_place_parts_1 := (List ByteArray)
structure Oseglog_Log where
  place_name : ByteArray
  place_gen : Int
  size : Int
  last : Int
  tail : Int
  count : Int
  bytes : Int
  deriving Inhabited, DecidableEq
structure Mqueue_entry where
  entry : Dqueue_Entry
  want : (List (Int × Bool))
  deriving Inhabited, DecidableEq
abbrev emqueue_entry : EM Mqueue_entry Dqueue_entry Int Bool := ⟨fun x g => ⟨x.entry, g⟩, fun x => x.want, fun x l => { x with want := l }, fun _ _ _ => rfl, fun _ _ => rfl⟩
structure Oqueue_Queue where
  c_self : Int
  c_sites : Int
  c_links : (List Int)
  c_cap : Int
  c_base : Int
  c_members : (List Int)
  log : Oseglog_Log
  applied : (List Int)
  under : (Option Rec)
  list : (List Mqueue_entry)
  next : Int
  gaps : (List (Int × Bool))
  members : (List Int)
  deriving Inhabited, DecidableEq
def m_disk_New (room : Int) : Option Odisk_Disk :=
 (some (⟨(min (max room 0) 1073741824), ([] : List (ByteArray × (List UInt8))), ([] : List (ByteArray × (List UInt8))), []⟩ : Odisk_Disk))
def m_slices_Index_2_int_2_int_b1 (v_0 : Int) (v_1 : Int) (f2 : Unit → Option Int) (i3 : Nat) (ei3 : Dapi_arr2) : Unit → Option Int := fun _ =>
 (bif ((⟨v_0, v_1⟩ : Dapi_arr2) == ei3) then
 (some ((i3 : Nat) : Int))
 else
 (f2 ()))
def m_slices_Index_2_int_2_int (s_ : List Dapi_arr2) (v_0 : Int) (v_1 : Int) : Option Int :=
 (forI (m_slices_Index_2_int_2_int_b1 v_0 v_1) (fun _ =>
 (some (-1))) 0 s_ ())
def m_slices_Contains_2_int_2_int (s_ : List Dapi_arr2) (v_0 : Int) (v_1 : Int) : Option Bool :=
 (Option.bind (m_slices_Index_2_int_2_int s_ v_0 v_1) fun z2 => (some (decide (0 ≤ z2))))
def m_ring_Right_b1 (members : List Int) (f1 : Unit → Option Bool) (i2 : Nat) (ei2 : Int) : Unit → Option Bool := fun _ =>
 (chk (imp ((!((decide (ei2 < 1)) || (decide (8 < ei2)))) && (decide (0 < ((i2 : Nat) : Int)))) (inb (w64 (((i2 : Nat) : Int) - 1)) members.length)) (bif (((decide (ei2 < 1)) || (decide (8 < ei2))) || ((decide (0 < ((i2 : Nat) : Int))) && (decide (ei2 ≤ (gt members ((w64 (((i2 : Nat) : Int) - 1)).toNat)))))) then
 (some false)
 else
 (f1 ())))
def m_ring_Right (members : List Int) : Option Bool :=
 (forI (m_ring_Right_b1 members) (fun _ =>
 (some (decide (0 < ((members.length : Nat) : Int))))) 0 members ())
def m_site_Right_b1 (c_ : Dapi_Conf) (f2 : Unit → Option Bool) (i3 : Nat) (ei3 : Dapi_arr2) : Unit → Option Bool := fun _ =>
 (Option.bind (gcall (!(((decide (ei3.a0 < 1)) || (decide (ei3.a1 ≤ ei3.a0))) || (decide (c_.sites < ei3.a1)))) (m_slices_Contains_2_int_2_int (List.take i3 c_.links) (ei3.a0) (ei3.a1))) fun z26 => (bif ((((decide (ei3.a0 < 1)) || (decide (ei3.a1 ≤ ei3.a0))) || (decide (c_.sites < ei3.a1))) || z26) then
 (some false)
 else
 (f2 ())))
def m_site_Right (c_ : Dapi_Conf) : Option Bool :=
 (forI (m_site_Right_b1 c_) (fun _ =>
 (Option.bind (gcall ((((decide (1 ≤ c_.sites)) && (decide (c_.sites ≤ 16))) && (decide (1 ≤ c_.nodes))) && (decide (c_.nodes ≤ 8))) (m_ring_Right c_.members)) fun z41 => (chk (imp (((((decide (1 ≤ c_.sites)) && (decide (c_.sites ≤ 16))) && (decide (1 ≤ c_.nodes))) && (decide (c_.nodes ≤ 8))) && z41) (inb (w64 (((c_.members.length : Nat) : Int) - 1)) c_.members.length)) (some ((((((((((((((((((((((((((decide (1 ≤ c_.sites)) && (decide (c_.sites ≤ 16))) && (decide (1 ≤ c_.nodes))) && (decide (c_.nodes ≤ 8))) && z41) && (decide ((gt c_.members ((w64 (((c_.members.length : Nat) : Int) - 1)).toNat)) ≤ c_.nodes))) && (decide (1 ≤ c_.n))) && (decide (c_.n ≤ ((c_.members.length : Nat) : Int)))) && (decide (1 ≤ c_.r))) && (decide (c_.r ≤ c_.n))) && (decide (1 ≤ c_.w_))) && (decide (c_.w_ ≤ c_.n))) && (decide (c_.n < (w64 (c_.r + c_.w_))))) && (decide (0 ≤ c_.group))) && (decide (1 ≤ ((c_.secret.size : Nat) : Int)))) && (decide (((c_.secret.size : Nat) : Int) ≤ 64))) && (decide (0 ≤ c_.room))) && (decide (1 ≤ c_.cap))) && (decide (c_.cap ≤ 65536))) && (decide (0 ≤ c_.pend))) && (decide (0 ≤ c_.wait))) && (decide (1 ≤ c_.timeout))) && (decide (c_.timeout ≤ 1048576))) && (decide (1 ≤ c_.hintAfter))) && (decide (0 ≤ c_.base))) && (decide (c_.base ≤ 4611686018427387904))))))) 0 c_.links ())
def m_slices_Clone_2_int_2_int (s_ : List Dapi_arr2) : Option (List Dapi_arr2) :=
 (nilc s_.isEmpty (
 (some []))
 ((chk (decide (0 + s_.length ≤ lim)) (some (([] : List Dapi_arr2) ++ s_)))))
def m_slices_Clone_int_int (s_ : List Int) : Option (List Int) :=
 (nilc s_.isEmpty (
 (some []))
 ((chk (decide (0 + s_.length ≤ lim)) (some (([] : List Int) ++ s_)))))
def m_inbox_New (room : Int) : Option Oinbox_Inbox :=
 (some (⟨(max room 0), []⟩ : Oinbox_Inbox))
def m_queue_Conf_right_b1 (c_ : Dqueue_Conf) (f2 : Unit → Option Bool) (i3 : Nat) (ei3 : Int) : Unit → Option Bool := fun _ =>
 (chk (imp ((!(((decide (ei3 < 1)) || (decide (c_.sites < ei3))) || (ei3 == c_.self))) && (decide (0 < ((i3 : Nat) : Int)))) (inb (w64 (((i3 : Nat) : Int) - 1)) c_.links.length)) (bif ((((decide (ei3 < 1)) || (decide (c_.sites < ei3))) || (ei3 == c_.self)) || ((decide (0 < ((i3 : Nat) : Int))) && (decide (ei3 ≤ (gt c_.links ((w64 (((i3 : Nat) : Int) - 1)).toNat)))))) then
 (some false)
 else
 (f2 ())))
def m_queue_Conf_right (c_ : Dqueue_Conf) : Option Bool :=
 (forI (m_queue_Conf_right_b1 c_) (fun _ =>
 (Option.bind (gcall ((((((((decide (1 ≤ c_.sites)) && (decide (c_.sites ≤ 16))) && (decide (1 ≤ c_.self))) && (decide (c_.self ≤ c_.sites))) && (decide (1 ≤ c_.cap))) && (decide (c_.cap ≤ 65536))) && (decide (0 ≤ c_.base))) && (decide (c_.base ≤ 4611686018427387904))) (m_ring_Right c_.members)) fun z57 => (some (((((((((decide (1 ≤ c_.sites)) && (decide (c_.sites ≤ 16))) && (decide (1 ≤ c_.self))) && (decide (c_.self ≤ c_.sites))) && (decide (1 ≤ c_.cap))) && (decide (c_.cap ≤ 65536))) && (decide (0 ≤ c_.base))) && (decide (c_.base ≤ 4611686018427387904))) && z57)))) 0 c_.links ())
def m_internal_stringslite_IndexByte (s_ : ByteArray) (c_ : Int) : Option Int :=
 (some (ixb s_ c_))
def m_internal_stringslite_Index (s_ : ByteArray) : Option Int :=
 (bif ((⟨#[46]⟩ : ByteArray) == s_) then
 (some 0)
 else
 (Option.bind (m_internal_stringslite_IndexByte s_ 46) fun z2 => (some z2)))
def m_strings_Index (s_ : ByteArray) : Option Int :=
 (Option.bind (m_internal_stringslite_Index s_) fun z1 => (some z1))
def m_strings_Contains (s_ : ByteArray) : Option Bool :=
 (Option.bind (m_strings_Index s_) fun z1 => (some (decide (0 ≤ z1))))
def m_seglog_place_list (p__1 : ByteArray) (p__2 : Int) : Option ByteArray :=
 (some (p__1 ++ (⟨#[46, 109]⟩ : ByteArray)))
def m_slices_Clone_byte_byte (s_ : List UInt8) : Option (List UInt8) :=
 (nilc s_.isEmpty (
 (some []))
 ((chk (decide (0 + s_.length ≤ lim)) (some (([] : List UInt8) ++ s_)))))
def m_disk_Disk_Read (d : Odisk_Disk) (name : ByteArray) : Option ((List UInt8) × Bool) :=
 (Option.bind (m_slices_Clone_byte_byte ((mget name d.seen).getD [])) fun z9 => (some (z9, ((mget name d.seen).isSome))))
def m_num_Num_j1 (e_6 : Int) : Option (Int × Int × Int) :=
 (some (0, 0, e_6))
def m_num_Num_j11 (b : List UInt8) (at_ : Int) (n_9 : Int) (f10 : Int → Option (Int × Int × Int)) (i11 : Nat) (x_17 : Bool) : Option (Int × Int × Int) :=
 (bif x_17 then
 (m_num_Num_j1 2)
 else
 (bif (decide ((((gt (List.drop at_.toNat b) i11).toNat : Nat) : Int) < 128)) then
 (chk (decide (0 ≤ (w64 (7 * ((i11 : Nat) : Int))))) (some ((w64 (ior .u64 n_9 (ishl .u64 (wu64 (((gt (List.drop at_.toNat b) i11).toNat : Nat) : Int)) (w64 (7 * ((i11 : Nat) : Int)))))), (w64 ((w64 (at_ + ((i11 : Nat) : Int))) + 1)), 0)))
 else
 (chk (decide (0 ≤ (w64 (7 * ((i11 : Nat) : Int))))) (f10 (ior .u64 n_9 (ishl .u64 (wu64 (iand .u8 (((gt (List.drop at_.toNat b) i11).toNat : Nat) : Int) 127)) (w64 (7 * ((i11 : Nat) : Int)))))))))
def m_num_Num_b10 (b : List UInt8) (at_ : Int) (f10 : Int → Option (Int × Int × Int)) (i11 : Nat) (ei11 : UInt8) : Int → Option (Int × Int × Int) := fun n_9 =>
 (bif ((((i11 : Nat) : Int) == 8) && (decide (127 < ((ei11.toNat : Nat) : Int)))) then
 (m_num_Num_j11 b at_ n_9 f10 i11 ((((i11 : Nat) : Int) == 8) && (decide (127 < ((ei11.toNat : Nat) : Int)))))
 else
 (m_num_Num_j11 b at_ n_9 f10 i11 ((decide (0 < ((i11 : Nat) : Int))) && (((ei11.toNat : Nat) : Int) == 0))))
def m_num_Num (b : List UInt8) (at_ : Int) : Option (Int × Int × Int) :=
 (bif ((decide (at_ < 0)) || (decide (((b.length : Nat) : Int) < at_))) then
 (some (0, 0, 1))
 else
 (chk (inle at_ b.length) (forI (m_num_Num_b10 b at_) (fun n_9 =>
 (m_num_Num_j1 4)) 0 (List.drop at_.toNat b) 0)))
def m_frame_Sum_b21 (f21 : Int → Option Int) (i22 : Nat) : Int → Option Int := fun r_20 =>
 (f21 (ixor .u32 (ishr .u32 r_20 1) (iand .u32 3988292384 (wu32 (0 - (iand .u32 r_20 1))))))
def m_frame_Sum_b20 (f13 : Int → Option Int) (i14 : Nat) (ei14 : UInt8) : Int → Option Int := fun r_12 =>
 (forU (m_frame_Sum_b21) (fun r_20 =>
 (f13 r_20)) 8 0 (ixor .u32 r_12 (wu32 ((ei14.toNat : Nat) : Int))))
def m_frame_Sum_b16 (f2 : Int → Option Int) (i3 : Nat) (ei3 : (List UInt8)) : Int → Option Int := fun r_1 =>
 (forI (m_frame_Sum_b20) (fun r_12 =>
 (f2 r_12)) 0 ei3 r_1)
def m_frame_Sum (parts : List (List UInt8)) : Option Int :=
 (forI (m_frame_Sum_b16) (fun r_1 =>
 (some (icom .u32 r_1))) 0 parts 4294967295)
def m_frame_Next_b1 (b : List UInt8) (z1 : Int × Int × Int) (z15 : Int) (f17 : Unit → Option ((List UInt8) × Int × Int)) (i18 : Nat) : Unit → Option ((List UInt8) × Int × Int) := fun _ =>
 (chk (inb (w64 (z1.2.1 + ((i18 : Nat) : Int))) b.length) (chk (decide (0 ≤ (w64 (8 * ((i18 : Nat) : Int))))) (bif ((((gt b ((w64 (z1.2.1 + ((i18 : Nat) : Int))).toNat)).toNat : Nat) : Int) != (wu8 (ishr .u32 z15 (w64 (8 * ((i18 : Nat) : Int)))))) then
 (some ([], 0, 20))
 else
 (f17 ()))))
def m_frame_Next (b : List UInt8) (at_ : Int) : Option ((List UInt8) × Int × Int) :=
 (Option.bind (m_num_Num b at_) fun z1 => (bif (z1.2.2 != 0) then
 (chk (i64b z1.2.2) (some ([], 0, z1.2.2)))
 else
 (bif (decide (1048576 < z1.1)) then
 (some ([], 0, 3))
 else
 (bif (decide ((w64 (((b.length : Nat) : Int) - z1.2.1)) < (w64 (z1.1 + 4)))) then
 (some ([], 0, 4))
 else
 (chk (inle (w64 ((w64 (z1.2.1 + 4)) + z1.1)) b.length) (chk (decide (0 ≤ (w64 (z1.2.1 + 4)))) (chk (decide ((w64 (z1.2.1 + 4)).toNat ≤ (w64 ((w64 (z1.2.1 + 4)) + z1.1)).toNat)) (chk (inle z1.2.1 b.length) (chk (decide (0 ≤ at_)) (chk (decide (at_.toNat ≤ z1.2.1.toNat)) (Option.bind (m_frame_Sum [(List.drop at_.toNat (List.take z1.2.1.toNat b)), (List.drop ((w64 (z1.2.1 + 4)).toNat) (List.take ((w64 ((w64 (z1.2.1 + 4)) + z1.1)).toNat) b))]) fun z15 => (forU (m_frame_Next_b1 b z1 z15) (fun _ =>
 (chk (decide (0 + (List.drop ((w64 (z1.2.1 + 4)).toNat) (List.take ((w64 ((w64 (z1.2.1 + 4)) + z1.1)).toNat) b)).length ≤ lim)) (some ((([] : List UInt8) ++ (List.drop ((w64 (z1.2.1 + 4)).toNat) (List.take ((w64 ((w64 (z1.2.1 + 4)) + z1.1)).toNat) b))), (w64 ((w64 (z1.2.1 + 4)) + z1.1)), 0)))) 4 0 ()))))))))))))
def m_frame_frames_1_b1 (Y : YSframe_frames_1 → List UInt8 → Int → Option YSframe_frames_1) (b0v : List UInt8) (f10 : Int × Int × YSframe_frames_1 → Option (YSframe_frames_1 × Int)) : Int × Int × YSframe_frames_1 → Option (YSframe_frames_1 × Int) := fun (at_3, x5, o7) =>
 (bif (decide (at_3 < ((b0v.length : Nat) : Int))) then
 (Option.bind (m_frame_Next b0v at_3) fun z15 => (bif (!(z15.2.2 != 0)) then
 (Option.bind (Y o7 z15.1 z15.2.1) fun z36 => (f10 (z15.2.1, z15.2.2, z36)))
 else
 (some (o7, z15.2.2))))
 else
 (some (o7, x5)))
def m_frame_frames_1 (Y : YSframe_frames_1 → List UInt8 → Int → Option YSframe_frames_1) (sY : YSframe_frames_1) (b0v : List UInt8) (b1v : Int) : Option (YSframe_frames_1 × Int) :=
 (loopN (m_frame_frames_1_b1 Y b0v) FU (0, b1v, sY))

def m_frame_All_y (s : YSframe_frames_1) (b : List UInt8) (n : Int) : Option YSframe_frames_1 := chk (decide (s.1.length + 1 ≤ lim)) (some (s.1 ++ [b], n))
def m_frame_All (b : List UInt8) : Option (List (List UInt8) × Int × Int) := Option.bind (m_frame_frames_1 m_frame_All_y ([], 0) b 0) fun z => some (z.1.1, z.1.2, z.2)
def m_seglog_place_holds_b1 (f34 : Int → Option (Int × Int × Int)) (i35 : Nat) (ei35 : (List UInt8)) : Int → Option (Int × Int × Int) := fun gen_33 =>
 (Option.bind (m_num_Num ei35 0) fun z44 => (bif ((((z44.2.2 != 0) || (z44.2.1 != ((ei35.length : Nat) : Int))) || (decide (z44.1 < 1))) || (decide (999999 < z44.1))) then
 (some (0, 0, 2))
 else
 (f34 z44.1)))
def m_seglog_place_holds (p__1 : ByteArray) (p__2 : Int) (dk0 : Odisk_Disk) : Option (Int × Int × Int) :=
 (Option.bind (m_seglog_place_list p__1 p__2) fun z3 => (chk (decide (z3.size ≤ lim)) (Option.bind (m_disk_Disk_Read dk0 z3) fun z6 => (Option.bind (m_frame_All z6.1) fun z21 => (forI (m_seglog_place_holds_b1) (fun gen_33 =>
 (chk (i64b gen_33) (some (gen_33, z21.2.1, 0)))) 0 z21.1 0)))))
def m_disk_Disk_Loose (d : Odisk_Disk) : Option Int :=
 (some ((d.loose.length : Nat) : Int))
def m_disk_right_b1 (f1 : Unit → Option Bool) (i2 : Nat) (ei2 : ByteArray) : Unit → Option Bool := fun _ =>
 (bif ((decide (((ei2.size : Nat) : Int) < 1)) || (decide (16 < ((ei2.size : Nat) : Int)))) then
 (some false)
 else
 (f1 ()))
def m_disk_right (names : List ByteArray) : Option Bool :=
 (forI (m_disk_right_b1) (fun _ =>
 (some true)) 0 names ())
def m_disk_Disk_there (d : Odisk_Disk) (name : ByteArray) : Option Int :=
 (Option.bind (m_disk_right [name]) fun z3 => (bif (!z3) then
 (some 70)
 else
 (bif (!((mget name d.seen).isSome)) then
 (some 71)
 else
 (some 0))))
def m_disk_Disk_Cut_1 (f_ : List (ByteArray × (List UInt8))) (b0 : ByteArray) (b1 : Int) : Option (List (ByteArray × (List UInt8))) :=
 (chk (inle b1 (((mget b0 f_).getD []).length)) (some (mput b0 (List.take b1.toNat ((mget b0 f_).getD [])) f_)))
def m_disk_Disk_Remove_1 (f_ : List (ByteArray × (List UInt8))) (b0 : ByteArray) : Option (List (ByteArray × (List UInt8))) :=
 (some (mdel b0 f_))
def m_slices_Clip_byte_byte (s_ : List UInt8) : Option (List UInt8) :=
 (some s_)
def m_disk_add_1 (f_ : List (ByteArray × (List UInt8))) (b0 : ByteArray) (b1 : (List UInt8)) : Option (List (ByteArray × (List UInt8))) :=
 (Option.bind (m_slices_Clip_byte_byte ((mget b0 f_).getD [])) fun z9 => (chk (decide (((mget b0 f_).getD []).length + b1.length ≤ lim)) (some (mput b0 (((mget b0 f_).getD []) ++ b1) f_))))
def m_call_Cdisk_change_do (x : Cdisk_change_do) (f_ : List (ByteArray × (List UInt8))) : Option (List (ByteArray × (List UInt8))) :=
  match x with
  | .disk_Disk_Cut_1 a0 a1 => m_disk_Disk_Cut_1 f_ a0 a1
  | .disk_Disk_Remove_1 a0 => m_disk_Disk_Remove_1 f_ a0
  | .disk_add_1 a0 a1 => m_disk_add_1 f_ a0 a1
def m_disk_Disk_done (d : Odisk_Disk) (c_ : Ddisk_change) : Option (Odisk_Disk × Int) :=
 (Option.bind (m_call_Cdisk_change_do c_.do_ d.seen) fun z4 => (chk (decide (d.loose.length + 1 ≤ lim)) (some ((⟨d.room, d.safe_, z4, (d.loose ++ [c_])⟩ : Odisk_Disk), 0))))
def m_disk_Disk_Cut (d : Odisk_Disk) (name : ByteArray) (n : Int) : Option (Odisk_Disk × Int) :=
 (Option.bind (m_disk_Disk_there d name) fun z3 => (bif (z3 != 0) then
 (chk (i64b z3) (some (d, z3)))
 else
 (bif ((decide (n < 0)) || (decide (((((mget name d.seen).getD []).length : Nat) : Int) < n))) then
 (some (d, 1))
 else
 (Option.bind (m_disk_Disk_done d (⟨(Cdisk_change_do.disk_Disk_Cut_1 name n), ByteArray.empty, []⟩ : Ddisk_change)) fun z36 => (some (z36.1, z36.2))))))
def m_seglog_place_shorten (p__1 : ByteArray) (p__2 : Int) (f_ : ByteArray) (n : Int) (dk0 : Odisk_Disk) : Option Odisk_Disk :=
 (Option.bind (m_disk_Disk_Read dk0 f_) fun z2 => (bif (decide (n < ((z2.1.length : Nat) : Int))) then
 (Option.bind (m_disk_Disk_Cut dk0 f_ n) fun z13 => (some z13.1))
 else
 (some dk0)))
def m_disk_Disk_Names (d : Odisk_Disk) : Option (List ByteArray) :=
 (chk (decide (d.seen.length ≤ lim)) (some (skeys d.seen)))
def m_internal_stringslite_HasPrefix (s_ : ByteArray) (prefix_ : ByteArray) : Option Bool :=
 (chk (imp (decide (((prefix_.size : Nat) : Int) ≤ ((s_.size : Nat) : Int))) (decide (prefix_.size ≤ s_.size))) (some ((decide (((prefix_.size : Nat) : Int) ≤ ((s_.size : Nat) : Int))) && ((s_.extract 0 prefix_.size) == prefix_))))
def m_internal_stringslite_CutPrefix (s_ : ByteArray) (prefix_ : ByteArray) : Option (ByteArray × Bool) :=
 (Option.bind (m_internal_stringslite_HasPrefix s_ prefix_) fun z1 => (bif (!z1) then
 (some (s_, false))
 else
 (chk (decide (prefix_.size ≤ s_.size)) (some ((s_.extract prefix_.size s_.size), true)))))
def m_strings_CutPrefix (s_ : ByteArray) (prefix_ : ByteArray) : Option (ByteArray × Bool) :=
 (Option.bind (m_internal_stringslite_CutPrefix s_ prefix_) fun z1 => (some (z1.1, z1.2)))
def m_internal_stringslite_Cut (s_ : ByteArray) : Option (ByteArray × ByteArray × Bool) :=
 (Option.bind (m_internal_stringslite_Index s_) fun z1 => (bif (decide (0 ≤ z1)) then
 (chk (inle z1 s_.size) (chk (inle (w64 (z1 + 1)) s_.size) (some ((s_.extract 0 z1.toNat), (s_.extract ((w64 (z1 + 1)).toNat) s_.size), true))))
 else
 (some (s_, ByteArray.empty, false))))
def m_strings_Cut (s_ : ByteArray) : Option (ByteArray × ByteArray × Bool) :=
 (Option.bind (m_internal_stringslite_Cut s_) fun z1 => (some (z1.1, z1.2.1, z1.2.2)))
def m_num_Read_b1 (f22 : Int → Option (Int × Int)) (i23 : Nat) (ei23 : UInt8) : Int → Option (Int × Int) := fun n_20 =>
 (bif ((decide (((ei23.toNat : Nat) : Int) < 48)) || (decide (57 < ((ei23.toNat : Nat) : Int)))) then
 (some (0, 2))
 else
 (f22 (wu64 ((wu64 (10 * n_20)) + (wu64 (wu8 (((ei23.toNat : Nat) : Int) - 48)))))))
def m_num_Read (s_ : ByteArray) : Option (Int × Int) :=
 (chk (imp ((!(s_ == ByteArray.empty)) && (decide (1 < ((s_.size : Nat) : Int)))) (decide (0 < s_.size))) (bif (((s_ == ByteArray.empty) || ((decide (1 < ((s_.size : Nat) : Int))) && ((((gt s_.data.toList 0).toNat : Nat) : Int) == 48))) || (decide (19 < ((s_.size : Nat) : Int)))) then
 (some (0, 2))
 else
 (forI (m_num_Read_b1) (fun n_20 =>
 (bif (decide (9223372036854775808 ≤ n_20)) then
 (some (0, 2))
 else
 (some ((w64 n_20), 0)))) 0 (s_.data.toList) 0)))
def m_seglog_place_parts_1_b1 (Y : YSseglog_place_parts_1 → ByteArray → Int → Int → Option YSseglog_place_parts_1) (b0v1 : ByteArray) (f16 : YSseglog_place_parts_1 → Option YSseglog_place_parts_1) (i17 : Nat) (ei17 : ByteArray) : YSseglog_place_parts_1 → Option YSseglog_place_parts_1 := fun o13 =>
 (chk (decide ((b0v1 ++ (⟨#[46]⟩ : ByteArray)).size ≤ lim)) (Option.bind (m_strings_CutPrefix ei17 (b0v1 ++ (⟨#[46]⟩ : ByteArray))) fun z24 => (chk (decide (z24.1.size ≤ lim)) (Option.bind (m_strings_Cut z24.1) fun z27 => (chk (decide (z27.1.size ≤ lim)) (Option.bind (m_num_Read z27.1) fun z30 => (chk (decide (z27.2.1.size ≤ lim)) (Option.bind (m_num_Read z27.2.1) fun z33 => (bif ((((((z24.2 && z27.2.2) && (z30.2 == 0)) && (z33.2 == 0)) && (decide (z30.1 ≤ 999999))) && (decide (1 ≤ z33.1))) && (decide (z33.1 ≤ 999999))) then
 (chk (i64b z30.1) (chk (i64b z33.1) (Option.bind (Y o13 ei17 z30.1 z33.1) fun z54 => (f16 z54))))
 else
 (f16 o13))))))))))
def m_seglog_place_parts_1 (Y : YSseglog_place_parts_1 → ByteArray → Int → Int → Option YSseglog_place_parts_1) (sY : YSseglog_place_parts_1) (b0v0 : Odisk_Disk) (b0v1 : ByteArray) (b0v2 : Int) : Option YSseglog_place_parts_1 :=
 (Option.bind (m_disk_Disk_Names b0v0) fun z1 => (forI (m_seglog_place_parts_1_b1 Y b0v1) (fun o13 =>
 (some o13)) 0 z1 sY))
def m_disk_Disk_Remove (d : Odisk_Disk) (name : ByteArray) : Option (Odisk_Disk × Int) :=
 (Option.bind (m_disk_Disk_there d name) fun z2 => (bif (z2 != 0) then
 (chk (i64b z2) (some (d, z2)))
 else
 (Option.bind (m_disk_Disk_done d (⟨(Cdisk_change_do.disk_Disk_Remove_1 name), ByteArray.empty, []⟩ : Ddisk_change)) fun z11 => (some (z11.1, z11.2)))))

def m_seglog_parts_y (pred : Int → Int → Option Bool) (s : YSseglog_place_parts_1) (f : ByteArray) (g n : Int) : Option YSseglog_place_parts_1 := Option.bind (pred g n) fun q => bif q then chk (decide (s.length + 1 ≤ lim)) (some (s ++ [f])) else some s
def m_seglog_remove_b1 (k : Odisk_Disk → Option Odisk_Disk) (i : Nat) (f : ByteArray) (d : Odisk_Disk) : Option Odisk_Disk := Option.bind (m_disk_Disk_Remove d f) fun z => k z.1
def m_seglog_place_remove (d : Odisk_Disk) (name : ByteArray) (gen : Int) (pred : Int → Int → Option Bool) : Option Odisk_Disk := Option.bind (m_seglog_place_parts_1 (m_seglog_parts_y pred) [] d name gen) fun l => forI m_seglog_remove_b1 some 0 l d
def m_seglog_Open_1 (g_ : Int) (a1 : Int) (b0v : Int) : Option Bool :=
 (some (g_ != b0v))
def m_num_Digits_j3 (at_24 : Int) (x26 : List UInt8) : Option ByteArray :=
 (chk (inle at_24 20) (some (⟨(List.drop at_24.toNat x26).toArray⟩ : ByteArray)))
def m_num_Digits_b2 (n : Int) (f14 : Int × Int × (List UInt8) → Option ByteArray) : Int × Int × (List UInt8) → Option ByteArray := fun (at_6, u_8, x10) =>
 (bif ((at_6 == 20) || (decide (0 < u_8))) then
 (chk (inb (w64 (at_6 - 1)) 20) (f14 ((w64 (at_6 - 1)), (wu64 (u_8.tdiv 10)), (List.set x10 ((w64 (at_6 - 1)).toNat) (b8 (wu8 (wu64 (48 + (u_8.tmod 10)))))))))
 else
 (bif (decide (n < 0)) then
 (chk (inb (w64 (at_6 - 1)) 20) (m_num_Digits_j3 (w64 (at_6 - 1)) (List.set x10 ((w64 (at_6 - 1)).toNat) (b8 45))))
 else
 (m_num_Digits_j3 at_6 x10)))
def m_num_Digits_j1 (n : Int) (u_3 : Int) : Option ByteArray :=
 (loopN (m_num_Digits_b2 n) FU (20, u_3, (List.replicate 20 (b8 0))))
def m_num_Digits (n : Int) : Option ByteArray :=
 (bif (decide (n < 0)) then
 (m_num_Digits_j1 n (wu64 (0 - (wu64 n))))
 else
 (m_num_Digits_j1 n (wu64 n)))
def m_seglog_place_file (p__1 : ByteArray) (p__2 : Int) (gen : Int) (part : Int) : Option ByteArray :=
 (Option.bind (m_num_Digits gen) fun z2 => (chk (decide ((p__1 ++ (⟨#[46]⟩ : ByteArray)).size ≤ lim)) (chk (decide (z2.size ≤ lim)) (chk (decide (((p__1 ++ (⟨#[46]⟩ : ByteArray)) ++ z2).size ≤ lim)) (Option.bind (m_num_Digits part) fun z7 => (chk (decide ((((p__1 ++ (⟨#[46]⟩ : ByteArray)) ++ z2) ++ (⟨#[46]⟩ : ByteArray)).size ≤ lim)) (chk (decide (z7.size ≤ lim)) (some ((((p__1 ++ (⟨#[46]⟩ : ByteArray)) ++ z2) ++ (⟨#[46]⟩ : ByteArray)) ++ z7)))))))))
def m_seglog_Log_scan_j1 (out_3 : List (List UInt8)) (o8 : Oseglog_Log) (o11 : Odisk_Disk) : Option (Oseglog_Log × Odisk_Disk × (List (List UInt8))) :=
 (some ((⟨o8.place_name, o8.place_gen, o8.size, o8.last, o8.tail, ((out_3.length : Nat) : Int), o8.bytes⟩ : Oseglog_Log), o11, out_3))
def m_seglog_Log_scan_b3 (f28 : (List (List UInt8)) × Bool × Oseglog_Log × Odisk_Disk → Option (Oseglog_Log × Odisk_Disk × (List (List UInt8)))) : (List (List UInt8)) × Bool × Oseglog_Log × Odisk_Disk → Option (Oseglog_Log × Odisk_Disk × (List (List UInt8))) := fun (out_16, whole_21, o22, o25) =>
 (bif (whole_21 && (decide (o22.last < 999999))) then
 (Option.bind (m_seglog_place_file o22.place_name o22.place_gen o22.place_gen (w64 (o22.last + 1))) fun z40 => (chk (decide (z40.size ≤ lim)) (Option.bind (m_disk_Disk_Read o25 z40) fun z43 => (bif (!z43.2) then
 (m_seglog_Log_scan_j1 out_16 o22 o25)
 else
 (Option.bind (m_frame_All z43.1) fun z60 => (Option.bind (m_seglog_place_shorten o22.place_name o22.place_gen z40 z60.2.1 o25) fun z72 => (chk (decide (out_16.length + z60.1.length ≤ lim)) (f28 ((out_16 ++ z60.1), (z60.2.1 == ((z43.1.length : Nat) : Int)), (⟨o22.place_name, o22.place_gen, o22.size, (w64 (o22.last + 1)), z60.2.1, o22.count, (w64 (o22.bytes + z60.2.1))⟩ : Oseglog_Log), z72)))))))))
 else
 (m_seglog_Log_scan_j1 out_16 o22 o25))
def m_seglog_Log_scan (l : Oseglog_Log) (dk0 : Odisk_Disk) : Option (Oseglog_Log × Odisk_Disk × (List (List UInt8))) :=
 (loopN (m_seglog_Log_scan_b3) FU ([], true, l, dk0))
def m_seglog_Open_2 (a0 : Int) (n : Int) (b0v : Oseglog_Log) : Option Bool :=
 (some (decide (b0v.last < n)))
def m_disk_Disk_Sync (d : Odisk_Disk) : Option Odisk_Disk :=
 (some (⟨d.room, d.seen, d.seen, []⟩ : Odisk_Disk))
def m_seglog_Open_j1 (z48 : Oseglog_Log × Odisk_Disk × (List (List UInt8))) (o74 : Odisk_Disk) : Option (Odisk_Disk × (Option Oseglog_Log) × (List (List UInt8)) × Int) :=
 (some (o74, (some z48.1), z48.2.2, 0))
def m_seglog_Open (d : Odisk_Disk) (name : ByteArray) (size : Int) : Option (Odisk_Disk × (Option Oseglog_Log) × (List (List UInt8)) × Int) :=
 (Option.bind (gcall (!((decide (((name.size : Nat) : Int) < 1)) || (decide (2 < ((name.size : Nat) : Int))))) (m_strings_Contains name)) fun z6 => (bif (((decide (((name.size : Nat) : Int) < 1)) || (decide (2 < ((name.size : Nat) : Int)))) || z6) then
 (some (d, none, [], 1))
 else
 (Option.bind (m_seglog_place_holds name 0 d) fun z10 => (bif (z10.2.2 != 0) then
 (some (d, none, [], z10.2.2))
 else
 (Option.bind (m_disk_Disk_Loose d) fun z21 => (Option.bind (m_seglog_place_list name z10.1) fun z24 => (chk (decide (z24.size ≤ lim)) (Option.bind (m_seglog_place_shorten name z10.1 z24 z10.2.1 d) fun z27 => (Option.bind (m_seglog_place_remove z27 name z10.1 (fun x y => m_seglog_Open_1 x y z10.1)) fun z37 => (Option.bind (m_seglog_Log_scan (⟨name, z10.1, (max size 16), 0, 0, 0, 0⟩ : Oseglog_Log) z37) fun z48 => (Option.bind (m_seglog_place_remove z48.2.1 name z10.1 (fun x y => m_seglog_Open_2 x y z48.1)) fun z64 => (Option.bind (m_disk_Disk_Loose z64) fun z77 => (bif (z77 != z21) then
 (Option.bind (m_disk_Disk_Sync z64) fun z80 => (m_seglog_Open_j1 z48 z80))
 else
 (m_seglog_Open_j1 z48 z64))))))))))))))
def m_queue_Open_b2 (c_ : Dqueue_Conf) (z5 : Odisk_Disk × (Option Oseglog_Log) × (List (List UInt8)) × Int) (z22 : List Int) (z32 : Oseglog_Log) (z36 : List Int) (x49 : List Int) (f84 : Unit → Option (Odisk_Disk × (Option Oqueue_Queue) × Int)) : Unit → Option (Odisk_Disk × (Option Oqueue_Queue) × Int) := fun _ =>
 (bif (decide (0 < ((z5.2.2.1.length : Nat) : Int))) then
 (chk (decide (0 < z5.2.2.1.length)) none)
 else
 (some (z5.1, (some (⟨c_.self, c_.sites, z22, c_.cap, c_.base, c_.members, z32, x49, none, ([] : List Mqueue_entry), 1, ([] : List (Int × Bool)), z36⟩ : Oqueue_Queue)), 0)))
def m_queue_Open_b1 (c_ : Dqueue_Conf) (f54 : List Int → Option (Odisk_Disk × (Option Oqueue_Queue) × Int)) (i55 : Nat) : List Int → Option (Odisk_Disk × (Option Oqueue_Queue) × Int) := fun x49 =>
 (chk (decide (x49.length + 1 ≤ lim)) (f54 (x49 ++ [c_.base])))
def m_queue_Open (d : Odisk_Disk) (size : Int) (c_ : Dqueue_Conf) : Option (Odisk_Disk × (Option Oqueue_Queue) × Int) :=
 (Option.bind (m_queue_Conf_right c_) fun z2 => (bif (!z2) then
 (some (d, none, 1))
 else
 (Option.bind (m_seglog_Open d (⟨#[103]⟩ : ByteArray) size) fun z5 => (bif (z5.2.2.2 != 0) then
 (some (z5.1, none, z5.2.2.2))
 else
 (Option.bind (m_slices_Clone_int_int c_.links) fun z22 => (Option.bind z5.2.1 fun z32 => (Option.bind (m_slices_Clone_int_int c_.members) fun z36 => (forU (m_queue_Open_b1 c_) (fun x49 =>
 (loopN (m_queue_Open_b2 c_ z5 z22 z32 z36 x49) FU ())) c_.sites.toNat 0 []))))))))
def m_site_Open_j6 (f66 : List Int → Option (Odisk_Disk × (Option Osite_Site) × Int)) (x73 : List Int) : Option (Odisk_Disk × (Option Osite_Site) × Int) :=
 (f66 x73)
def m_site_Open_b5 (self : Int) (f66 : List Int → Option (Odisk_Disk × (Option Osite_Site) × Int)) (i67 : Nat) (ei67 : Dapi_arr2) : List Int → Option (Odisk_Disk × (Option Osite_Site) × Int) := fun x61 =>
 (bif (ei67.a0 == self) then
 (chk (decide (x61.length + 1 ≤ lim)) (m_site_Open_j6 f66 (x61 ++ [ei67.a1])))
 else
 (bif (ei67.a1 == self) then
 (chk (decide (x61.length + 1 ≤ lim)) (m_site_Open_j6 f66 (x61 ++ [ei67.a0])))
 else
 (m_site_Open_j6 f66 x61)))
def m_site_Open_j1 (c_ : Dapi_Conf) (self : Int) (boot : Int) (d : Odisk_Disk) (x17 : List Dapi_arr2) (x22 : List Int) : Option (Odisk_Disk × (Option Osite_Site) × Int) :=
 (Option.bind (m_inbox_New c_.pend) fun z49 => (forI (m_site_Open_b5 self) (fun x61 =>
 (Option.bind (m_queue_Open d c_.seg (⟨self, c_.sites, (srtI x61), c_.cap, c_.base, x22⟩ : Dqueue_Conf)) fun z112 => (bif (z112.2.2 != 0) then
 (some (z112.1, none, z112.2.2))
 else
 (chk (i64b (ishl .i64 boot 32)) (some (z112.1, (some (⟨c_.sites, x17, c_.nodes, x22, c_.n, c_.r, c_.w_, c_.group, c_.secret, c_.room, c_.seg, c_.cap, c_.pend, c_.wait, c_.timeout, c_.hintAfter, c_.base, self, (srtI x61), (ishl .i64 boot 32)⟩ : Osite_Site)), 0)))))) 0 x17 []))
def m_site_Open (c_ : Dapi_Conf) (self : Int) (boot : Int) (d : Odisk_Disk) : Option (Odisk_Disk × (Option Osite_Site) × Int) :=
 (Option.bind (m_site_Right c_) fun z2 => (bif (((((!z2) || (decide (self < 1))) || (decide (c_.sites < self))) || (decide (boot < 0))) || (decide (1073741824 ≤ boot))) then
 (some (d, none, 205))
 else
 (Option.bind (m_slices_Clone_2_int_2_int c_.links) fun z28 => (Option.bind (m_slices_Clone_int_int c_.members) fun z38 => (m_site_Open_j1 c_ self boot d z28 z38)))))
def m_firthref12_Right_b1 (members : List Int) (f5 : Unit → Option Bool) (i6 : Nat) (ei6 : Int) : Unit → Option Bool := fun _ =>
 (bif ((decide (ei6 < 1)) || (decide (8 < ei6))) then
 (some false)
 else
 (chk (imp (decide (0 < ((i6 : Nat) : Int))) (inb (w64 (((i6 : Nat) : Int) - 1)) members.length)) (bif ((decide (0 < ((i6 : Nat) : Int))) && (decide (ei6 ≤ (gt members ((w64 (((i6 : Nat) : Int) - 1)).toNat))))) then
 (some false)
 else
 (f5 ()))))
def m_firthref12_Right (members : List Int) : Option Bool :=
 (bif ((decide (((members.length : Nat) : Int) < 1)) || (decide (8 < ((members.length : Nat) : Int)))) then
 (some false)
 else
 (forI (m_firthref12_Right_b1 members) (fun _ =>
 (some true)) 0 members ()))
def m_firthref20_Right_b5 (c_ : Dapi_Conf) (i3 : Nat) (f21 : Unit → Option Bool) (i22 : Nat) : Unit → Option Bool := fun _ =>
 (chk (decide (i22 < c_.links.length)) (bif ((gt c_.links i22) == (gt c_.links i3)) then
 (some false)
 else
 (f21 ())))
def m_firthref20_Right_b4 (c_ : Dapi_Conf) (f2 : Unit → Option Bool) (i3 : Nat) (ei3 : Dapi_arr2) : Unit → Option Bool := fun _ =>
 (bif (((decide (ei3.a0 < 1)) || (decide (c_.sites < ei3.a1))) || (decide (ei3.a1 ≤ ei3.a0))) then
 (some false)
 else
 (forU (m_firthref20_Right_b5 c_ i3) (fun _ =>
 (f2 ())) i3 0 ()))
def m_firthref20_Right (c_ : Dapi_Conf) : Option Bool :=
 (forI (m_firthref20_Right_b4 c_) (fun _ =>
 (Option.bind (gcall (!((((decide (c_.sites < 1)) || (decide (16 < c_.sites))) || (decide (c_.nodes < 1))) || (decide (8 < c_.nodes)))) (m_firthref12_Right c_.members)) fun z42 => (chk (imp (!(((((decide (c_.sites < 1)) || (decide (16 < c_.sites))) || (decide (c_.nodes < 1))) || (decide (8 < c_.nodes))) || (!z42))) (inb (w64 (((c_.members.length : Nat) : Int) - 1)) c_.members.length)) (bif ((((((decide (c_.sites < 1)) || (decide (16 < c_.sites))) || (decide (c_.nodes < 1))) || (decide (8 < c_.nodes))) || (!z42)) || (decide (c_.nodes < (gt c_.members ((w64 (((c_.members.length : Nat) : Int) - 1)).toNat))))) then
 (some false)
 else
 (bif (((((((decide (c_.n < 1)) || (decide (((c_.members.length : Nat) : Int) < c_.n))) || (decide (c_.r < 1))) || (decide (c_.n < c_.r))) || (decide (c_.w_ < 1))) || (decide (c_.n < c_.w_))) || (decide ((w64 (c_.r + c_.w_)) ≤ c_.n))) then
 (some false)
 else
 (bif ((((((((decide (c_.group < 0)) || (c_.secret == ByteArray.empty)) || (decide (64 < ((c_.secret.size : Nat) : Int)))) || (decide (c_.room < 0))) || (decide (c_.cap < 1))) || (decide (65536 < c_.cap))) || (decide (c_.pend < 0))) || (decide (c_.wait < 0))) then
 (some false)
 else
 (some (((((decide (1 ≤ c_.timeout)) && (decide (c_.timeout ≤ 1048576))) && (decide (1 ≤ c_.hintAfter))) && (decide (0 ≤ c_.base))) && (decide (c_.base ≤ 4611686018427387904)))))))))) 0 c_.links ())
def m_firthlaw20_awake : Option Bool :=
 (some true)
def m_firthlaw20_SiteConfs (c_ : Dapi_Conf) (self : Int) (boot : Int) : Option Bool :=
 (Option.bind (m_disk_New 4096) fun z3 => (Option.bind (m_site_Open c_ self boot z3) fun z12 => (Option.bind (m_firthref20_Right c_) fun z24 => (Option.bind (m_firthlaw20_awake) fun z36 => (Option.bind (gcall z36 (m_site_Right c_)) fun z40 => (Option.bind (gcall z36 (m_firthref20_Right c_)) fun z44 => (some ((((z36 && (z40 == z44)) && ((!(Option.isNone z12.2.1)) == ((((z24 && (decide (1 ≤ self))) && (decide (self ≤ c_.sites))) && (decide (0 ≤ boot))) && (decide (boot < 1073741824))))) && ((z12.2.2 == 0) == ((((z24 && (decide (1 ≤ self))) && (decide (self ≤ c_.sites))) && (decide (0 ≤ boot))) && (decide (boot < 1073741824))))) && (((((z24 && (decide (1 ≤ self))) && (decide (self ≤ c_.sites))) && (decide (0 ≤ boot))) && (decide (boot < 1073741824))) || (z12.2.2 == 205))))))))))
end Fw
end Go.Proofs.YtogmioecalmalaaGreat
