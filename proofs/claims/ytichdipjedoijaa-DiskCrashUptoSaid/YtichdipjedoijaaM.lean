/- What the functions compute, as Lean functions (printed by a program). No condition. -/
import Derived.Test.YtichdipjedoijaaE
import Derived.Test.YtichdipjedoijaaK14
import Derived.Test.YtichdipjedoijaaK15
import Derived.Test.YtichdipjedoijaaK16
import Derived.Test.YtichdipjedoijaaK17
import Derived.Test.YtichdipjedoijaaK18
namespace Go.Proofs.Ytichdipjedoijaa
namespace Fw
set_option linter.unusedVariables false
set_option linter.unusedSimpArgs false
set_option linter.unusedSectionVars false
open Go.RowKit
structure Odisk_Disk where
  room : Int
  safe_ : (List (ByteArray × (List UInt8)))
  seen : (List (ByteArray × (List UInt8)))
  loose : (List Ddisk_change)
  deriving Inhabited, DecidableEq
structure Ofirthref07_Disk where
  room : Int
  safe_ : (List Dfirthref07_File)
  todo : (List Dfirthref07_Change)
  deriving Inhabited, DecidableEq
def m_disk_New (room : Int) : Option Odisk_Disk :=
 (some (⟨(min (max room 0) 1073741824), ([] : List (ByteArray × (List UInt8))), ([] : List (ByteArray × (List UInt8))), []⟩ : Odisk_Disk))
def m_disk_right_b1 (f1 : Unit → Option Bool) (i2 : Nat) (ei2 : ByteArray) : Unit → Option Bool := fun _ =>
 (bif ((decide (((ei2.size : Nat) : Int) < 1)) || (decide (16 < ((ei2.size : Nat) : Int)))) then
 (some false)
 else
 (f1 ()))
def m_disk_right (names : List ByteArray) : Option Bool :=
 (forI (m_disk_right_b1) (fun _ =>
 (some true)) 0 names ())
def m_disk_Disk_Used_b1 : Int → (ByteArray × (List UInt8)) → Option Int := fun n_12 en23 =>
 (some (w64 (n_12 + ((en23.2.length : Nat) : Int))))
def m_disk_Disk_Used (d : Odisk_Disk) : Option Int :=
 (Option.bind (fldO (m_disk_Disk_Used_b1) 0 d.seen) (fun n_12 =>
 (some n_12)))
def m_slices_Clone_byte_byte (s_ : List UInt8) : Option (List UInt8) :=
 (nilc s_.isEmpty (
 (some []))
 ((chk (decide (0 + s_.length ≤ lim)) (some (([] : List UInt8) ++ s_)))))
def m_disk_add (name : ByteArray) (b : List UInt8) : Option Cdisk_change_do :=
 (some (Cdisk_change_do.disk_add_1 name b))
def m_disk_Disk_Rename_1 (f_ : List (ByteArray × (List UInt8))) (b0 : ByteArray) (b1 : ByteArray) : Option (List (ByteArray × (List UInt8))) :=
 (some (mput b1 ((mget b0 f_).getD []) (mdel b0 f_)))
def m_disk_Disk_Remove_1 (f_ : List (ByteArray × (List UInt8))) (b0 : ByteArray) : Option (List (ByteArray × (List UInt8))) :=
 (some (mdel b0 f_))
def m_slices_Clip_byte_byte (s_ : List UInt8) : Option (List UInt8) :=
 (some s_)
def m_disk_add_1 (f_ : List (ByteArray × (List UInt8))) (b0 : ByteArray) (b1 : (List UInt8)) : Option (List (ByteArray × (List UInt8))) :=
 (Option.bind (m_slices_Clip_byte_byte ((mget b0 f_).getD [])) fun z9 => (chk (decide (((mget b0 f_).getD []).length + b1.length ≤ lim)) (some (mput b0 (((mget b0 f_).getD []) ++ b1) f_))))
def m_disk_Disk_Cut_1 (f_ : List (ByteArray × (List UInt8))) (b0 : ByteArray) (b1 : Int) : Option (List (ByteArray × (List UInt8))) :=
 (chk (inle b1 (((mget b0 f_).getD []).length)) (some (mput b0 (List.take b1.toNat ((mget b0 f_).getD [])) f_)))
def m_call_Cdisk_change_do (x : Cdisk_change_do) (f_ : List (ByteArray × (List UInt8))) : Option (List (ByteArray × (List UInt8))) :=
  match x with
  | .disk_Disk_Rename_1 a0 a1 => m_disk_Disk_Rename_1 f_ a0 a1
  | .disk_Disk_Remove_1 a0 => m_disk_Disk_Remove_1 f_ a0
  | .disk_add_1 a0 a1 => m_disk_add_1 f_ a0 a1
  | .disk_Disk_Cut_1 a0 a1 => m_disk_Disk_Cut_1 f_ a0 a1
def m_disk_Disk_done (d : Odisk_Disk) (c_ : Ddisk_change) : Option (Odisk_Disk × Int) :=
 (Option.bind (m_call_Cdisk_change_do c_.do_ d.seen) fun z4 => (chk (decide (d.loose.length + 1 ≤ lim)) (some ((⟨d.room, d.safe_, z4, (d.loose ++ [c_])⟩ : Odisk_Disk), 0))))
def m_disk_Disk_Append (d : Odisk_Disk) (name : ByteArray) (b : List UInt8) : Option (Odisk_Disk × Int) :=
 (Option.bind (m_disk_right [name]) fun z3 => (bif (!z3) then
 (some (d, 70))
 else
 (Option.bind (m_disk_Disk_Used d) fun z7 => (bif (decide ((w64 (d.room - z7)) < ((b.length : Nat) : Int))) then
 (some (d, 72))
 else
 (Option.bind (m_slices_Clone_byte_byte b) fun z11 => (Option.bind (m_disk_add name z11) fun z26 => (Option.bind (m_disk_Disk_done d (⟨z26, name, z11⟩ : Ddisk_change)) fun z36 => (some (z36.1, z36.2)))))))))
def m_disk_Disk_Sync (d : Odisk_Disk) : Option Odisk_Disk :=
 (some (⟨d.room, d.seen, d.seen, []⟩ : Odisk_Disk))
def m_disk_Disk_Loose (d : Odisk_Disk) : Option Int :=
 (some ((d.loose.length : Nat) : Int))
def m_disk_Disk_Crash_j2 (d : Odisk_Disk) (m42 : List (ByteArray × (List UInt8))) : Option Odisk_Disk :=
 (some (⟨d.room, m42, m42, []⟩ : Odisk_Disk))
def m_disk_Disk_Crash_b1 (f13 : List (ByteArray × (List UInt8)) → Option Odisk_Disk) (i14 : Nat) (ei14 : Ddisk_change) : List (ByteArray × (List UInt8)) → Option Odisk_Disk := fun m10 =>
 (Option.bind (m_call_Cdisk_change_do (ei14.do_) m10) fun z27 => (f13 z27))
def m_disk_Disk_Crash (d : Odisk_Disk) (keep : Int) (torn : Int) : Option Odisk_Disk :=
 (chk (inle (min (max keep 0) ((d.loose.length : Nat) : Int)) d.loose.length) (forI (m_disk_Disk_Crash_b1) (fun m10 =>
 (bif (decide ((min (max keep 0) ((d.loose.length : Nat) : Int)) < ((d.loose.length : Nat) : Int))) then
 (chk (inb (min (max keep 0) ((d.loose.length : Nat) : Int)) d.loose.length) (bif (decide (0 < (min (max torn 0) ((((gt d.loose ((min (max keep 0) ((d.loose.length : Nat) : Int)).toNat)).tail).length : Nat) : Int)))) then
 (chk (inle (min (max torn 0) ((((gt d.loose ((min (max keep 0) ((d.loose.length : Nat) : Int)).toNat)).tail).length : Nat) : Int)) (((gt d.loose ((min (max keep 0) ((d.loose.length : Nat) : Int)).toNat)).tail).length)) (Option.bind (m_disk_add ((gt d.loose ((min (max keep 0) ((d.loose.length : Nat) : Int)).toNat)).name) (List.take ((min (max torn 0) ((((gt d.loose ((min (max keep 0) ((d.loose.length : Nat) : Int)).toNat)).tail).length : Nat) : Int)).toNat) ((gt d.loose ((min (max keep 0) ((d.loose.length : Nat) : Int)).toNat)).tail))) fun z56 => (Option.bind (m_call_Cdisk_change_do z56 m10) fun z65 => (m_disk_Disk_Crash_j2 d z65))))
 else
 (m_disk_Disk_Crash_j2 d m10)))
 else
 (m_disk_Disk_Crash_j2 d m10))) 0 (List.take ((min (max keep 0) ((d.loose.length : Nat) : Int)).toNat) d.loose) d.safe_))
def m_disk_Disk_Read (d : Odisk_Disk) (name : ByteArray) : Option ((List UInt8) × Bool) :=
 (Option.bind (m_slices_Clone_byte_byte ((mget name d.seen).getD [])) fun z9 => (some (z9, ((mget name d.seen).isSome))))
def m_disk_Disk_Names (d : Odisk_Disk) : Option (List ByteArray) :=
 (chk (decide (d.seen.length ≤ lim)) (some (skeys d.seen)))
def m_firthlaw07_awake  : Option Bool :=
 (Option.bind (m_disk_New 9) fun z1 => (Option.bind (m_disk_Disk_Append z1 ⟨#[97]⟩ ([120, 121] : List UInt8)) fun z14 => (bif (z14.2 != 0) then
 (some false)
 else
 (Option.bind (m_disk_Disk_Sync z14.1) fun z24 => (Option.bind (m_disk_Disk_Append z24 ⟨#[97]⟩ ([122, 49] : List UInt8)) fun z36 => (Option.bind (m_disk_Disk_Append z36.1 ⟨#[98]⟩ ([113] : List UInt8)) fun z49 => (Option.bind (m_disk_Disk_Loose z49.1) fun z58 => (Option.bind (m_disk_Disk_Crash z49.1 0 1) fun z60 => (Option.bind (m_disk_Disk_Read z60 ⟨#[97]⟩) fun z68 => (bif (((((z36.2 == 0) && (z49.2 == 0)) && (z58 == 2)) && z68.2) && ((⟨z68.1.toArray⟩ : ByteArray) == ⟨#[120, 121, 122]⟩)) then
 (Option.bind (m_disk_Disk_Names z60) fun z88 => (some (((z88.length : Nat) : Int) == 1)))
 else
 (some false)))))))))))


def m_firthlaw07_DiskKeeps_b2 (f62 : List UInt8 → Option Bool) (i63 : Nat) : List UInt8 → Option Bool := fun x58 =>
 (f62 (List.set x58 i63 (b8 (wu8 ((((gt x58 i63).toNat : Nat) : Int) + 1)))))
def m_firthlaw07_DiskKeeps_b1 (f39 : List UInt8 → Option Bool) (i40 : Nat) (ei40 : UInt8) : List UInt8 → Option Bool := fun x35 =>
 (f39 (List.set x35 i40 (b8 (wu8 ((((gt x35 i40).toNat : Nat) : Int) + 1)))))
def m_firthlaw07_DiskKeeps (x_ : List UInt8) (more : List UInt8) : Option Bool :=
 (Option.bind (m_firthlaw07_awake) fun z1 => (bif ((!z1) || (decide (1048576 < (w64 (((x_.length : Nat) : Int) + ((more.length : Nat) : Int)))))) then
 (Option.bind (m_firthlaw07_awake) fun z10 => (some z10))
 else
 (Option.bind (m_disk_New 2097152) fun z12 => (chk (decide (0 + x_.length ≤ lim)) (Option.bind (m_disk_Disk_Append z12 ⟨#[97]⟩ x_) fun z26 => (forI (m_firthlaw07_DiskKeeps_b1) (fun x35 =>
 (Option.bind (m_disk_Disk_Read z26.1 ⟨#[97]⟩) fun z48 => (forU (m_firthlaw07_DiskKeeps_b2) (fun x58 =>
 (Option.bind (m_disk_Disk_Append z26.1 ⟨#[97]⟩ more) fun z71 => (Option.bind (m_disk_Disk_Crash z71.1 1 ((more.length : Nat) : Int)) fun z80 => (Option.bind (m_disk_Disk_Read z80 ⟨#[97]⟩) fun z88 => (some (((z26.2 == 0) && (z71.2 == 0)) && ((⟨z88.1.toArray⟩ : ByteArray) == ((⟨x_.toArray⟩ : ByteArray) ++ (⟨more.toArray⟩ : ByteArray))))))))) z48.1.length 0 z48.1))) 0 x_ x_))))))
def m_disk_Disk_there (d : Odisk_Disk) (name : ByteArray) : Option Int :=
 (Option.bind (m_disk_right [name]) fun z3 => (bif (!z3) then
 (some 70)
 else
 (bif (!((mget name d.seen).isSome)) then
 (some 71)
 else
 (some 0))))
def m_disk_Disk_Rename (d : Odisk_Disk) (from_ : ByteArray) (to_ : ByteArray) : Option (Odisk_Disk × Int) :=
 (Option.bind (m_disk_right [from_, to_]) fun z5 => (bif (!z5) then
 (some (d, 70))
 else
 (Option.bind (m_disk_Disk_there d from_) fun z8 => (bif (z8 != 0) then
 (chk (i64b z8) (some (d, z8)))
 else
 (Option.bind (m_disk_Disk_done d (⟨(Cdisk_change_do.disk_Disk_Rename_1 from_ to_), ByteArray.empty, []⟩ : Ddisk_change)) fun z21 => (some (z21.1, z21.2)))))))
def m_disk_Disk_Remove (d : Odisk_Disk) (name : ByteArray) : Option (Odisk_Disk × Int) :=
 (Option.bind (m_disk_Disk_there d name) fun z2 => (bif (z2 != 0) then
 (chk (i64b z2) (some (d, z2)))
 else
 (Option.bind (m_disk_Disk_done d (⟨(Cdisk_change_do.disk_Disk_Remove_1 name), ByteArray.empty, []⟩ : Ddisk_change)) fun z11 => (some (z11.1, z11.2)))))
def m_firthlaw07_DiskNames (a : ByteArray) (b : ByteArray) (x_ : List UInt8) : Option Bool :=
 (Option.bind (m_firthlaw07_awake) fun z7 => (bif ((((((!z7) || (a == b)) || (decide (((a.size : Nat) : Int) < 1))) || (decide (16 < ((a.size : Nat) : Int)))) || (decide (((b.size : Nat) : Int) < 1))) || (decide (16 < ((b.size : Nat) : Int)))) then
 (Option.bind (m_firthlaw07_awake) fun z25 => (some z25))
 else
 (Option.bind (m_disk_New 1048576) fun z27 => (Option.bind (m_disk_Disk_Append z27 a x_) fun z36 => (Option.bind (m_disk_Disk_Append z36.1 b (a.data.toList)) fun z45 => (bif ((z36.2 != 0) || (z45.2 != 0)) then
 (some (((z36.2 == 72) && (decide (1048576 < ((x_.length : Nat) : Int)))) || ((z45.2 == 72) && (decide ((w64 (1048576 - ((x_.length : Nat) : Int))) < (((a.data.toList).length : Nat) : Int))))))
 else
 (Option.bind (m_disk_Disk_Rename z45.1 a b) fun z70 => (Option.bind (m_disk_Disk_Names z70.1) fun z79 => (Option.bind (m_disk_Disk_Read z70.1 b) fun z89 => (Option.bind (m_disk_Disk_Read z70.1 a) fun z99 => (Option.bind (m_disk_Disk_Rename z70.1 b b) fun z109 => (Option.bind (m_disk_Disk_Read z109.1 b) fun z118 => (chk (imp (((z70.2 == 0) && (z109.2 == 0)) && (((z79.length : Nat) : Int) == 1)) (decide (0 < z79.length))) (bif ((((((((z70.2 == 0) && (z109.2 == 0)) && (((z79.length : Nat) : Int) == 1)) && ((gt z79 0) == b)) && z89.2) && (!z99.2)) && ((⟨z89.1.toArray⟩ : ByteArray) == (⟨x_.toArray⟩ : ByteArray))) && ((⟨z118.1.toArray⟩ : ByteArray) == (⟨x_.toArray⟩ : ByteArray))) then
 (Option.bind (m_disk_Disk_Remove z109.1 a) fun z155 => (Option.bind (gcall (z155.2 == 71) (m_disk_Disk_Loose z155.1)) fun z166 => (Option.bind (gcall ((z155.2 == 71) && (z166 == 4)) (m_disk_Disk_Used z155.1)) fun z171 => (some (((z155.2 == 71) && (z166 == 4)) && (z171 == ((x_.length : Nat) : Int)))))))
 else
 (some false)))))))))))))))
def m_firthref07_New_j2 (room_4 : Int) : Option Ofirthref07_Disk :=
 (some (⟨room_4, [], []⟩ : Ofirthref07_Disk))
def m_firthref07_New_j1 (room_1 : Int) : Option Ofirthref07_Disk :=
 (bif (decide (1073741824 < room_1)) then
 (m_firthref07_New_j2 1073741824)
 else
 (m_firthref07_New_j2 room_1))
def m_firthref07_New (room : Int) : Option Ofirthref07_Disk :=
 (bif (decide (room < 0)) then
 (m_firthref07_New_j1 0)
 else
 (m_firthref07_New_j1 room))
def m_firthref07_wrong (s_ : ByteArray) : Option Bool :=
 (some ((s_ == ByteArray.empty) || (decide (16 < ((s_.size : Nat) : Int)))))
def m_firthref07_find_b1 (name : ByteArray) (f1 : Unit → Option Int) (i2 : Nat) (ei2 : Dfirthref07_File) : Unit → Option Int := fun _ =>
 (bif (ei2.name == name) then
 (some ((i2 : Nat) : Int))
 else
 (f1 ()))
def m_firthref07_find (l : List Dfirthref07_File) (name : ByteArray) : Option Int :=
 (forI (m_firthref07_find_b1 name) (fun _ =>
 (some (-1))) 0 l ())
def m_firthref07_data (l : List Dfirthref07_File) (name : ByteArray) : Option (List UInt8) :=
 (Option.bind (m_firthref07_find l name) fun z1 => (bif (decide (0 ≤ z1)) then
 (chk (inb z1 l.length) (chk (decide (0 + ((gt l z1.toNat).data).length ≤ lim)) (some ((gt l z1.toNat).data))))
 else
 (some [])))
def m_firthref07_without_j5 (f6 : List Dfirthref07_File → Option (List Dfirthref07_File)) (out_13 : List Dfirthref07_File) : Option (List Dfirthref07_File) :=
 (f6 out_13)
def m_firthref07_without_b4 (name : ByteArray) (f6 : List Dfirthref07_File → Option (List Dfirthref07_File)) (i7 : Nat) (ei7 : Dfirthref07_File) : List Dfirthref07_File → Option (List Dfirthref07_File) := fun out_1 =>
 (bif (ei7.name != name) then
 (chk (decide (out_1.length + 1 ≤ lim)) (m_firthref07_without_j5 f6 (out_1 ++ [ei7])))
 else
 (m_firthref07_without_j5 f6 out_1))
def m_firthref07_without (l : List Dfirthref07_File) (name : ByteArray) : Option (List Dfirthref07_File) :=
 (forI (m_firthref07_without_b4 name) (fun out_1 =>
 (some out_1)) 0 l [])
def m_firthref07_with_j5 (z1 : List Dfirthref07_File) (f17 : (List Dfirthref07_File) × Bool → Option (List Dfirthref07_File)) (i18 : Nat) (out_24 : List Dfirthref07_File) (laid_29 : Bool) : Option (List Dfirthref07_File) :=
 (chk (decide (out_24.length + 1 ≤ lim)) (f17 ((out_24 ++ [(gt z1 i18)]), laid_29)))
def m_firthref07_with_b4 (name : ByteArray) (b : List UInt8) (z1 : List Dfirthref07_File) (f17 : (List Dfirthref07_File) × Bool → Option (List Dfirthref07_File)) (i18 : Nat) (ei18 : Dfirthref07_File) : (List Dfirthref07_File) × Bool → Option (List Dfirthref07_File) := fun (out_11, laid_16) =>
 (bif ((!laid_16) && (strLt name (ei18.name))) then
 (chk (decide (out_11.length + 1 ≤ lim)) (m_firthref07_with_j5 z1 f17 i18 (out_11 ++ [(⟨name, b⟩ : Dfirthref07_File)]) true))
 else
 (m_firthref07_with_j5 z1 f17 i18 out_11 laid_16))
def m_firthref07_with (l : List Dfirthref07_File) (name : ByteArray) (b : List UInt8) : Option (List Dfirthref07_File) :=
 (Option.bind (m_firthref07_without l name) fun z1 => (forI (m_firthref07_with_b4 name b z1) (fun (out_11, laid_16) =>
 (bif (!laid_16) then
 (chk (decide (out_11.length + 1 ≤ lim)) (some (out_11 ++ [(⟨name, b⟩ : Dfirthref07_File)])))
 else
 (some out_11))) 0 z1 ([], false)))
def m_firthref07_did (l : List Dfirthref07_File) (c_ : Dfirthref07_Change) : Option (List Dfirthref07_File) :=
 (bif (c_.kind == 1) then
 (Option.bind (m_firthref07_data l c_.name) fun z3 => (chk (decide (z3.length + c_.data.length ≤ lim)) (Option.bind (m_firthref07_with l c_.name (z3 ++ c_.data)) fun z23 => (some z23))))
 else
 (bif (c_.kind == 2) then
 (Option.bind (m_firthref07_data l c_.name) fun z35 => (chk (inle c_.n z35.length) (Option.bind (m_firthref07_with l c_.name (List.take c_.n.toNat z35)) fun z51 => (some z51))))
 else
 (bif (c_.kind == 3) then
 (Option.bind (m_firthref07_data l c_.name) fun z62 => (Option.bind (m_firthref07_without l c_.name) fun z73 => (Option.bind (m_firthref07_with z73 c_.to_ z62) fun z93 => (some z93))))
 else
 (Option.bind (m_firthref07_without l c_.name) fun z103 => (some z103)))))
def m_firthref07_Disk_Files_b1 (f10 : List Dfirthref07_File → Option (List Dfirthref07_File)) (i11 : Nat) (ei11 : Dfirthref07_Change) : List Dfirthref07_File → Option (List Dfirthref07_File) := fun l_5 =>
 (Option.bind (m_firthref07_did l_5 ei11) fun z21 => (f10 z21))
def m_firthref07_Disk_Files (d : Ofirthref07_Disk) : Option (List Dfirthref07_File) :=
 (forI (m_firthref07_Disk_Files_b1) (fun l_5 =>
 (some l_5)) 0 d.todo d.safe_)
def m_firthref07_Disk_Used_b1 (f13 : Int → Option Int) (i14 : Nat) (ei14 : Dfirthref07_File) : Int → Option Int := fun n_11 =>
 (f13 (w64 (n_11 + (((ei14.data).length : Nat) : Int))))
def m_firthref07_Disk_Used (d : Ofirthref07_Disk) : Option Int :=
 (Option.bind (m_firthref07_Disk_Files d) fun z1 => (forI (m_firthref07_Disk_Used_b1) (fun n_11 =>
 (some n_11)) 0 z1 0))
def m_firthref07_Disk_Do_j1 (d : Ofirthref07_Disk) (c_ : Dfirthref07_Change)  : Option (Ofirthref07_Disk × Int) :=
 (chk (decide (0 + c_.data.length ≤ lim)) (chk (decide (d.todo.length + 1 ≤ lim)) (some ((⟨d.room, d.safe_, (d.todo ++ [c_])⟩ : Ofirthref07_Disk), 0))))
def m_firthref07_Disk_Do_j3 (d : Ofirthref07_Disk) (c_ : Dfirthref07_Change) (x_32 : Bool) : Option (Ofirthref07_Disk × Int) :=
 (bif x_32 then
 (some (d, 72))
 else
 (m_firthref07_Disk_Do_j1 d c_ ))
def m_firthref07_Disk_Do (d : Ofirthref07_Disk) (c_ : Dfirthref07_Change) : Option (Ofirthref07_Disk × Int) :=
 (Option.bind (m_firthref07_wrong c_.name) fun z2 => (Option.bind (gcall ((!z2) && (c_.kind == 3)) (m_firthref07_wrong c_.to_)) fun z11 => (bif (z2 || ((c_.kind == 3) && z11)) then
 (some (d, 70))
 else
 (Option.bind (m_firthref07_Disk_Files d) fun z15 => (Option.bind (m_firthref07_find z15 c_.name) fun z25 => (bif (c_.kind == 1) then
 (Option.bind (m_firthref07_Disk_Used d) fun z34 => (m_firthref07_Disk_Do_j3 d c_ (decide ((w64 (d.room - z34)) < ((c_.data.length : Nat) : Int)))))
 else
 (bif (decide (z25 < 0)) then
 (some (d, 71))
 else
 (bif (c_.kind == 2) then
 (chk (imp (!(decide (c_.n < 0))) (inb z25 z15.length)) (bif ((decide (c_.n < 0)) || (decide (((((gt z15 z25.toNat).data).length : Nat) : Int) < c_.n))) then
 (some (d, 1))
 else
 (m_firthref07_Disk_Do_j1 d c_ )))
 else
 (m_firthref07_Disk_Do_j1 d c_ )))))))))
def m_firthref07_Disk_Append (d : Ofirthref07_Disk) (name : ByteArray) (b : List UInt8) : Option (Ofirthref07_Disk × Int) :=
 (Option.bind (m_firthref07_Disk_Do d (⟨1, name, ByteArray.empty, b, 0⟩ : Dfirthref07_Change)) fun z1 => (some (z1.1, z1.2)))
def m_disk_Disk_Cut (d : Odisk_Disk) (name : ByteArray) (n : Int) : Option (Odisk_Disk × Int) :=
 (Option.bind (m_disk_Disk_there d name) fun z3 => (bif (z3 != 0) then
 (chk (i64b z3) (some (d, z3)))
 else
 (bif ((decide (n < 0)) || (decide (((((mget name d.seen).getD []).length : Nat) : Int) < n))) then
 (some (d, 1))
 else
 (Option.bind (m_disk_Disk_done d (⟨(Cdisk_change_do.disk_Disk_Cut_1 name n), ByteArray.empty, []⟩ : Ddisk_change)) fun z36 => (some (z36.1, z36.2))))))
def m_firthref07_Disk_Cut (d : Ofirthref07_Disk) (name : ByteArray) (n : Int) : Option (Ofirthref07_Disk × Int) :=
 (Option.bind (m_firthref07_Disk_Do d (⟨2, name, ByteArray.empty, [], n⟩ : Dfirthref07_Change)) fun z1 => (some (z1.1, z1.2)))
def m_firthref07_Disk_Rename (d : Ofirthref07_Disk) (from_ : ByteArray) (to_ : ByteArray) : Option (Ofirthref07_Disk × Int) :=
 (Option.bind (m_firthref07_Disk_Do d (⟨3, from_, to_, [], 0⟩ : Dfirthref07_Change)) fun z1 => (some (z1.1, z1.2)))
def m_firthref07_Disk_Remove (d : Ofirthref07_Disk) (name : ByteArray) : Option (Ofirthref07_Disk × Int) :=
 (Option.bind (m_firthref07_Disk_Do d (⟨4, name, ByteArray.empty, [], 0⟩ : Dfirthref07_Change)) fun z1 => (some (z1.1, z1.2)))
def m_firthref07_Disk_Sync (d : Ofirthref07_Disk) : Option Ofirthref07_Disk :=
 (Option.bind (m_firthref07_Disk_Files d) fun z1 => (some (⟨d.room, z1, []⟩ : Ofirthref07_Disk)))
def m_firthref07_Disk_Crash_j17 (f10 : List Dfirthref07_File → Option Ofirthref07_Disk) (l_21 : List Dfirthref07_File) : Option Ofirthref07_Disk :=
 (f10 l_21)
def m_firthref07_Disk_Crash_j21 (f10 : List Dfirthref07_File → Option Ofirthref07_Disk) (l_34 : List Dfirthref07_File) (x71 : Dfirthref07_Change) : Option Ofirthref07_Disk :=
 (Option.bind (m_firthref07_did l_34 x71) fun z77 => (m_firthref07_Disk_Crash_j17 f10 z77))
def m_firthref07_Disk_Crash_j20 (d : Ofirthref07_Disk) (keep : Int) (torn : Int) (f10 : List Dfirthref07_File → Option Ofirthref07_Disk) (i11 : Nat) (l_34 : List Dfirthref07_File) : Option Ofirthref07_Disk :=
 (bif (((((((i11 : Nat) : Int) == keep) || ((((i11 : Nat) : Int) == 0) && (decide (keep < 0)))) && ((gt d.todo i11).kind == 1)) && (decide (0 < torn))) && (decide (0 < ((((gt d.todo i11).data).length : Nat) : Int)))) then
 (bif (decide (torn < ((((gt d.todo i11).data).length : Nat) : Int))) then
 (chk (inle torn (((gt d.todo i11).data).length)) (m_firthref07_Disk_Crash_j21 f10 l_34 (⟨(gt d.todo i11).kind, (gt d.todo i11).name, (gt d.todo i11).to_, (List.take torn.toNat ((gt d.todo i11).data)), (gt d.todo i11).n⟩ : Dfirthref07_Change)))
 else
 (m_firthref07_Disk_Crash_j21 f10 l_34 (gt d.todo i11)))
 else
 (m_firthref07_Disk_Crash_j17 f10 l_34))
def m_firthref07_Disk_Crash_b16 (d : Ofirthref07_Disk) (keep : Int) (torn : Int) (f10 : List Dfirthref07_File → Option Ofirthref07_Disk) (i11 : Nat) (ei11 : Dfirthref07_Change) : List Dfirthref07_File → Option Ofirthref07_Disk := fun l_5 =>
 (bif (decide (((i11 : Nat) : Int) < keep)) then
 (Option.bind (m_firthref07_did l_5 ei11) fun z40 => (m_firthref07_Disk_Crash_j20 d keep torn f10 i11 z40))
 else
 (m_firthref07_Disk_Crash_j20 d keep torn f10 i11 l_5))
def m_firthref07_Disk_Crash (d : Ofirthref07_Disk) (keep : Int) (torn : Int) : Option Ofirthref07_Disk :=
 (forI (m_firthref07_Disk_Crash_b16 d keep torn) (fun l_5 =>
 (some (⟨d.room, l_5, []⟩ : Ofirthref07_Disk))) 0 d.todo d.safe_)
def m_disk_Disk_Wipe (d : Odisk_Disk) : Option Odisk_Disk :=
 (some (⟨d.room, ([] : List (ByteArray × (List UInt8))), ([] : List (ByteArray × (List UInt8))), []⟩ : Odisk_Disk))
def m_firthref07_Disk_Wipe (d : Ofirthref07_Disk) : Option Ofirthref07_Disk :=
 (some (⟨d.room, [], []⟩ : Ofirthref07_Disk))
def m_firthlaw07_does (d : Odisk_Disk) (m : Ofirthref07_Disk) (o : Dfirthlaw07_Op) : Option (Odisk_Disk × Ofirthref07_Disk × Bool) :=
 (bif (o.kind == 1) then
 (Option.bind (m_disk_Disk_Append d o.name o.data) fun z4 => (Option.bind (m_firthref07_Disk_Append m o.name o.data) fun z13 => (some (z4.1, z13.1, (z4.2 == z13.2)))))
 else
 (bif (o.kind == 2) then
 (Option.bind (m_disk_Disk_Cut d o.name o.n) fun z24 => (Option.bind (m_firthref07_Disk_Cut m o.name o.n) fun z33 => (some (z24.1, z33.1, (z24.2 == z33.2)))))
 else
 (bif (o.kind == 3) then
 (Option.bind (m_disk_Disk_Rename d o.name o.to_) fun z44 => (Option.bind (m_firthref07_Disk_Rename m o.name o.to_) fun z53 => (some (z44.1, z53.1, (z44.2 == z53.2)))))
 else
 (bif (o.kind == 4) then
 (Option.bind (m_disk_Disk_Remove d o.name) fun z64 => (Option.bind (m_firthref07_Disk_Remove m o.name) fun z73 => (some (z64.1, z73.1, (z64.2 == z73.2)))))
 else
 (bif (o.kind == 5) then
 (Option.bind (m_disk_Disk_Sync d) fun z83 => (Option.bind (m_firthref07_Disk_Sync m) fun z91 => (some (z83, z91, true))))
 else
 (bif (o.kind == 6) then
 (Option.bind (m_disk_Disk_Crash d o.n o.torn) fun z100 => (Option.bind (m_firthref07_Disk_Crash m o.n o.torn) fun z108 => (some (z100, z108, true))))
 else
 (bif (o.kind == 7) then
 (Option.bind (m_disk_Disk_Wipe d) fun z117 => (Option.bind (m_firthref07_Disk_Wipe m) fun z125 => (some (z117, z125, true))))
 else
 (some (d, m, true)))))))))
def m_firthlaw07_Files_j5 (f18 : List Dfirthref07_File → Option (List Dfirthref07_File)) (out_27 : List Dfirthref07_File) : Option (List Dfirthref07_File) :=
 (f18 out_27)
def m_firthlaw07_Files_b4 (d : Odisk_Disk) (f18 : List Dfirthref07_File → Option (List Dfirthref07_File)) (i19 : Nat) (ei19 : ByteArray) : List Dfirthref07_File → Option (List Dfirthref07_File) := fun out_13 =>
 (Option.bind (m_disk_Disk_Read d ei19) fun z32 => (bif z32.2 then
 (chk (decide (out_13.length + 1 ≤ lim)) (m_firthlaw07_Files_j5 f18 (out_13 ++ [(⟨ei19, z32.1⟩ : Dfirthref07_File)])))
 else
 (m_firthlaw07_Files_j5 f18 out_13)))
def m_firthlaw07_Files (d : Odisk_Disk) : Option (List Dfirthref07_File) :=
 (Option.bind (m_disk_Disk_Names d) fun z1 => (forI (m_firthlaw07_Files_b4 d) (fun out_13 =>
 (some out_13)) 0 z1 []))
def m_firthref07_Same_b1 (b : List Dfirthref07_File) (f2 : Unit → Option Bool) (i3 : Nat) (ei3 : Dfirthref07_File) : Unit → Option Bool := fun _ =>
 (chk (decide (i3 < b.length)) (bif ((ei3.name != (gt b i3).name) || ((⟨(ei3.data).toArray⟩ : ByteArray) != (⟨((gt b i3).data).toArray⟩ : ByteArray))) then
 (some false)
 else
 (f2 ())))
def m_firthref07_Same (a : List Dfirthref07_File) (b : List Dfirthref07_File) : Option Bool :=
 (bif (((a.length : Nat) : Int) != ((b.length : Nat) : Int)) then
 (some false)
 else
 (forI (m_firthref07_Same_b1 b) (fun _ =>
 (some true)) 0 a ()))
def m_firthlaw07_DiskPlays_j5 (f30 : Ofirthref07_Disk × Odisk_Disk → Option Bool) (x_39 : Bool) (o40 : Ofirthref07_Disk) (o43 : Odisk_Disk) : Option Bool :=
 (bif x_39 then
 (some false)
 else
 (f30 (o40, o43)))
def m_firthlaw07_DiskPlays_b4 (f30 : Ofirthref07_Disk × Odisk_Disk → Option Bool) (i31 : Nat) (ei31 : Dfirthlaw07_Op) : Ofirthref07_Disk × Odisk_Disk → Option Bool := fun (o24, o27) =>
 (Option.bind (m_firthlaw07_does o27 o24 ei31) fun z50 => (Option.bind (gcall (!(!z50.2.2)) (m_disk_Disk_Loose z50.1)) fun z66 => (Option.bind (gcall (!((!z50.2.2) || (z66 != ((z50.2.1.todo.length : Nat) : Int)))) (m_disk_Disk_Used z50.1)) fun z78 => (bif (!((!z50.2.2) || (z66 != ((z50.2.1.todo.length : Nat) : Int)))) then
 (Option.bind (m_firthref07_Disk_Used z50.2.1) fun z81 => (bif (!(z78 != z81)) then
 (Option.bind (m_firthlaw07_Files z50.1) fun z92 => (Option.bind (m_firthref07_Disk_Files z50.2.1) fun z102 => (Option.bind (gcall (!(z78 != z81)) (m_firthref07_Same z92 z102)) fun z113 => (m_firthlaw07_DiskPlays_j5 f30 (!z113) z50.2.1 z50.1))))
 else
 (m_firthlaw07_DiskPlays_j5 f30 true z50.2.1 z50.1)))
 else
 (m_firthlaw07_DiskPlays_j5 f30 true z50.2.1 z50.1)))))
def m_firthlaw07_DiskPlays (room : Int) (script : List Dfirthlaw07_Op) : Option Bool :=
 (Option.bind (m_firthlaw07_awake) fun z1 => (bif (!z1) then
 (some false)
 else
 (Option.bind (m_disk_New room) fun z4 => (Option.bind (m_firthref07_New room) fun z13 => (forI (m_firthlaw07_DiskPlays_b4) (fun (o24, o27) =>
 (Option.bind (m_disk_Disk_Read o27 ByteArray.empty) fun z117 => (some (!z117.2)))) 0 script (z13, z4))))))
def m_firthlaw07_DiskCrash_j12 (f100 : Odisk_Disk × Odisk_Disk × Ofirthref07_Disk → Option Bool) (o109 : Odisk_Disk) (o112 : Odisk_Disk) (o115 : Ofirthref07_Disk) : Option Bool :=
 (f100 (o109, o112, o115))
def m_firthlaw07_DiskCrash_j14 (loose : List Dfirthlaw07_Op) (fate0 : Int) (fate1 : Int) (f100 : Odisk_Disk × Odisk_Disk × Ofirthref07_Disk → Option Bool) (i101 : Nat) (z126 : Int) (z128 : Odisk_Disk × Ofirthref07_Disk × Bool) (o143 : Ofirthref07_Disk) (o146 : Odisk_Disk) : Option Bool :=
 (bif (((((z126 == fate0) || ((z126 == 0) && (decide (fate0 < 0)))) && ((gt loose i101).kind == 1)) && (decide (0 < fate1))) && (decide (0 < ((((gt loose i101).data).length : Nat) : Int)))) then
 (chk (inle (min fate1 ((((gt loose i101).data).length : Nat) : Int)) (((gt loose i101).data).length)) (Option.bind (m_disk_Disk_Append o146 ((gt loose i101).name) (List.take ((min fate1 ((((gt loose i101).data).length : Nat) : Int)).toNat) ((gt loose i101).data))) fun z178 => (m_firthlaw07_DiskCrash_j12 f100 z178.1 z128.1 o143)))
 else
 (m_firthlaw07_DiskCrash_j12 f100 o146 z128.1 o143))
def m_firthlaw07_DiskCrash_b11 (loose : List Dfirthlaw07_Op) (fate0 : Int) (fate1 : Int) (f100 : Odisk_Disk × Odisk_Disk × Ofirthref07_Disk → Option Bool) (i101 : Nat) (ei101 : Dfirthlaw07_Op) : Odisk_Disk × Odisk_Disk × Ofirthref07_Disk → Option Bool := fun (o91, o94, o97) =>
 (bif ((decide (ei101.kind < 1)) || (decide (4 < ei101.kind))) then
 (m_firthlaw07_DiskCrash_j12 f100 o91 o94 o97)
 else
 (Option.bind (m_disk_Disk_Loose o94) fun z126 => (Option.bind (m_firthlaw07_does o94 o97 ei101) fun z128 => (Option.bind (m_disk_Disk_Loose z128.1) fun z138 => (bif (z138 == z126) then
 (m_firthlaw07_DiskCrash_j12 f100 o91 z128.1 z128.2.1)
 else
 (bif (decide (z126 < fate0)) then
 (Option.bind (m_firthlaw07_does o91 z128.2.1 ei101) fun z150 => (m_firthlaw07_DiskCrash_j14 loose fate0 fate1 f100 i101 z126 z128 z150.2.1 z150.1))
 else
 (m_firthlaw07_DiskCrash_j14 loose fate0 fate1 f100 i101 z126 z128 z128.2.1 o91)))))))
def m_firthlaw07_DiskCrash_b1 (f43 : Ofirthref07_Disk × Odisk_Disk × Odisk_Disk → Option Bool) (i44 : Nat) (ei44 : Dfirthlaw07_Op) : Ofirthref07_Disk × Odisk_Disk × Odisk_Disk → Option Bool := fun (o34, o37, o40) =>
 (Option.bind (m_firthlaw07_does o40 o34 ei44) fun z53 => (Option.bind (m_firthlaw07_does o37 z53.2.1 ei44) fun z63 => (f43 (z63.2.1, z63.1, z53.1))))
def m_firthlaw07_DiskCrash (safe_ : List Dfirthlaw07_Op) (loose : List Dfirthlaw07_Op) (fate0 : Int) (fate1 : Int) : Option Bool :=
 (Option.bind (m_firthlaw07_awake) fun z2 => (bif (!z2) then
 (some false)
 else
 (Option.bind (m_disk_New 4096) fun z5 => (Option.bind (m_disk_New 4096) fun z14 => (Option.bind (m_firthref07_New 4096) fun z23 => (forI (m_firthlaw07_DiskCrash_b1) (fun (o34, o37, o40) =>
 (Option.bind (m_disk_Disk_Sync o40) fun z73 => (Option.bind (m_disk_Disk_Sync o37) fun z81 => (forI (m_firthlaw07_DiskCrash_b11 loose fate0 fate1) (fun (o91, o94, o97) =>
 (Option.bind (m_disk_Disk_Crash o94 fate0 fate1) fun z187 => (Option.bind (m_disk_Disk_Loose z187) fun z195 => (bif (z195 == 0) then
 (Option.bind (m_firthlaw07_Files z187) fun z199 => (Option.bind (m_firthlaw07_Files o91) fun z209 => (Option.bind (m_firthref07_Same z199 z209) fun z219 => (some z219))))
 else
 (some false))))) 0 loose (z81, z73, o34))))) 0 safe_ (z23, z14, z5)))))))
def m_firthlaw07_DiskSafe_j6 (f76 : Odisk_Disk × Ofirthref07_Disk → Option Bool) (o85 : Odisk_Disk) (o88 : Ofirthref07_Disk) : Option Bool :=
 (f76 (o85, o88))
def m_firthlaw07_DiskSafe_b5 (f76 : Odisk_Disk × Ofirthref07_Disk → Option Bool) (i77 : Nat) (ei77 : Dfirthlaw07_Op) : Odisk_Disk × Ofirthref07_Disk → Option Bool := fun (o70, o73) =>
 (bif ((decide (1 ≤ ei77.kind)) && (decide (ei77.kind ≤ 4))) then
 (Option.bind (m_firthlaw07_does o70 o73 ei77) fun z101 => (m_firthlaw07_DiskSafe_j6 f76 z101.1 z101.2.1))
 else
 (m_firthlaw07_DiskSafe_j6 f76 o70 o73))
def m_firthlaw07_DiskSafe_b1 (f30 : Ofirthref07_Disk × Odisk_Disk → Option Bool) (i31 : Nat) (ei31 : Dfirthlaw07_Op) : Ofirthref07_Disk × Odisk_Disk → Option Bool := fun (o24, o27) =>
 (Option.bind (m_firthlaw07_does o27 o24 ei31) fun z40 => (f30 (z40.2.1, z40.1)))
def m_firthlaw07_DiskSafe (script : List Dfirthlaw07_Op) (more : List Dfirthlaw07_Op) : Option Bool :=
 (Option.bind (m_firthlaw07_awake) fun z1 => (bif (!z1) then
 (some false)
 else
 (Option.bind (m_disk_New 2048) fun z4 => (Option.bind (m_firthref07_New 2048) fun z13 => (forI (m_firthlaw07_DiskSafe_b1) (fun (o24, o27) =>
 (Option.bind (m_disk_Disk_Sync o27) fun z50 => (Option.bind (m_firthlaw07_Files z50) fun z58 => (forI (m_firthlaw07_DiskSafe_b5) (fun (o70, o73) =>
 (Option.bind (m_disk_Disk_Crash o70 0 0) fun z111 => (Option.bind (m_firthlaw07_Files z111) fun z119 => (Option.bind (m_firthref07_Same z119 z58) fun z129 => (bif (!z129) then
 (some false)
 else
 (Option.bind (m_disk_Disk_Crash z111 5 5) fun z132 => (Option.bind (m_firthlaw07_Files z132) fun z140 => (Option.bind (m_firthref07_Same z140 z58) fun z150 => (some z150))))))))) 0 more (z50, o24))))) 0 script (z13, z4))))))
def m_firthlaw07_DiskRoom_j5 (f30 : Ofirthref07_Disk × Odisk_Disk → Option Bool) (o39 : Ofirthref07_Disk) (o42 : Odisk_Disk) : Option Bool :=
 (f30 (o39, o42))
def m_firthlaw07_DiskRoom_b4 (room : Int) (f30 : Ofirthref07_Disk × Odisk_Disk → Option Bool) (i31 : Nat) (ei31 : Dfirthlaw07_Op) : Ofirthref07_Disk × Odisk_Disk → Option Bool := fun (o24, o27) =>
 (Option.bind (m_firthlaw07_Files o27) fun z45 => (bif (((ei31.kind == 1) && (decide (1 ≤ (((ei31.name).size : Nat) : Int)))) && (decide ((((ei31.name).size : Nat) : Int) ≤ 16))) then
 (Option.bind (m_disk_Disk_Used o27) fun z68 => (Option.bind (m_disk_Disk_Append o27 (ei31.name) (ei31.data)) fun z70 => (bif (((!((z70.2 == 0) != (decide ((((ei31.data).length : Nat) : Int) ≤ (w64 ((w64 room) - z68)))))) && (z70.2 != 0)) && (!(z70.2 != 72))) then
 (Option.bind (m_firthlaw07_Files z70.1) fun z87 => (Option.bind (m_firthref07_Same z87 z45) fun z97 => (bif (!z97) then
 (some false)
 else
 (m_firthlaw07_DiskRoom_j5 f30 o24 z70.1))))
 else
 (bif (((z70.2 == 0) != (decide ((((ei31.data).length : Nat) : Int) ≤ (w64 ((w64 room) - z68))))) || ((z70.2 != 0) && true)) then
 (some false)
 else
 (m_firthlaw07_DiskRoom_j5 f30 o24 z70.1)))))
 else
 (Option.bind (m_firthlaw07_does o27 o24 ei31) fun z103 => (Option.bind (m_disk_Disk_Used z103.1) fun z113 => (bif (decide ((w64 room) < z113)) then
 (some false)
 else
 (m_firthlaw07_DiskRoom_j5 f30 z103.2.1 z103.1))))))
def m_firthlaw07_DiskRoom (room : Int) (script : List Dfirthlaw07_Op) : Option Bool :=
 (Option.bind (m_firthlaw07_awake) fun z1 => (bif (!z1) then
 (some false)
 else
 (Option.bind (m_disk_New (w64 room)) fun z4 => (Option.bind (m_firthref07_New (w64 room)) fun z13 => (forI (m_firthlaw07_DiskRoom_b4 room) (fun (o24, o27) =>
 (Option.bind (m_disk_Disk_Used o27) fun z116 => (bif (decide (0 ≤ (w64 ((w64 room) - z116)))) then
 (chk (decide (0 ≤ (w64 ((w64 ((w64 room) - z116)) + 1)))) (chk (decide ((w64 ((w64 ((w64 room) - z116)) + 1)).toNat ≤ lim)) (Option.bind (m_disk_Disk_Append o27 ⟨#[122, 122]⟩ (List.replicate ((w64 ((w64 ((w64 room) - z116)) + 1)).toNat) (b8 0))) fun z132 => (bif (z132.2 == 72) then
 (chk (decide (0 ≤ (w64 ((w64 room) - z116)))) (chk (decide ((w64 ((w64 room) - z116)).toNat ≤ lim)) (Option.bind (m_disk_Disk_Append z132.1 ⟨#[122, 122]⟩ (List.replicate ((w64 ((w64 room) - z116)).toNat) (b8 0))) fun z154 => (some (z154.2 == 0)))))
 else
 (some false)))))
 else
 (some false)))) 0 script (z13, z4))))))
end Fw
end Go.Proofs.Ytichdipjedoijaa
