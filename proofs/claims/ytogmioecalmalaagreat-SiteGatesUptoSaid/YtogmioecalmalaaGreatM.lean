/- What the functions compute, as Lean functions (printed by a program). No condition. -/
import Derived.Test.YtogmioecalmalaaGreatE
import Derived.Test.YtogmioecalmalaaGreatK14
import Derived.Test.YtogmioecalmalaaGreatK15
import Derived.Test.YtogmioecalmalaaGreatK16
import Derived.Test.YtogmioecalmalaaGreatK18
import Derived.Test.YtogmioecalmalaaGreatK19
import Derived.Test.YtogmioecalmalaaGreatK20
import Derived.Test.YtogmioecalmalaaGreatK23
import Derived.Test.YtogmioecalmalaaGreatK24
import Derived.Test.YtogmioecalmalaaGreatK25
import Derived.Test.YtogmioecalmalaaGreatK26
import Derived.Test.YtogmioecalmalaaGreatK33
import Derived.Test.YtogmioecalmalaaGreatK34
import Derived.Test.YtogmioecalmalaaGreatK36
import Derived.Test.YtogmioecalmalaaGreatK37
import Derived.Test.YtogmioecalmalaaGreatK39
import Derived.Test.YtogmioecalmalaaGreatK40
import Derived.Test.YtogmioecalmalaaGreatK44
namespace Go.Proofs.YtogmioecalmalaaGreat
namespace Fw
set_option linter.unusedVariables false
set_option linter.unusedSimpArgs false
set_option linter.unusedSectionVars false
open Go.RowKit
structure aa where
  room : Int
  safe_ : (List (ByteArray × (List UInt8)))
  seen : (List (ByteArray × (List UInt8)))
  loose : (List aE)
  deriving Inhabited, DecidableEq
structure bm where
  room : Int
  list : (List b6)
  deriving Inhabited, DecidableEq
structure gh where
  leaves : List (Option (List (ByteArray × Rec)))
  sums : List ((Int × Int × Int) × Int)
  deriving Inhabited, DecidableEq
structure dh where
  id : Int
  vec : (List Int)
  tree : gh
  deriving Inhabited, DecidableEq
structure aq where
  place_name : ByteArray
  place_gen : Int
  size : Int
  last : Int
  tail : Int
  count : Int
  bytes : Int
  deriving Inhabited, DecidableEq
structure fa where
  entry : br
  want : (List (Int × Bool))
  deriving Inhabited, DecidableEq
abbrev iv : EM fa aS Int Bool := ⟨fun x g => ⟨x.entry, g⟩, fun x => x.want, fun x l => { x with want := l }, fun _ _ _ => rfl, fun _ _ => rfl⟩
structure ay where
  c_self : Int
  c_sites : Int
  c_links : (List Int)
  c_cap : Int
  c_base : Int
  c_members : (List Int)
  log : aq
  applied : (List Int)
  under : (Option Rec)
  list : (List fa)
  next : Int
  gaps : (List (Int × Bool))
  members : (List Int)
  deriving Inhabited, DecidableEq
structure au where
  c_sites : Int
  c_links : (List al)
  c_nodes : Int
  c_members : (List Int)
  c_n : Int
  c_r : Int
  c_w : Int
  c_group : Int
  c_secret : ByteArray
  c_room : Int
  c_seg : Int
  c_cap : Int
  c_pend : Int
  c_wait : Int
  c_timeout : Int
  c_hintAfter : Int
  c_base : Int
  self : Int
  links : (List Int)
  q : ay
  ids : Int
  deriving Inhabited, DecidableEq
abbrev ak := (List (List UInt8) × Int)
abbrev ae := (List ByteArray)
structure af where
  b : (List UInt8)
  at_ : Int
  bad : Bool
  deriving Inhabited, DecidableEq
structure ac where
  b : (List UInt8)
  at_ : Int
  deriving Inhabited, DecidableEq
def eH : Option Bool :=
 (some true)
def jv (sites : Int) (f11 : Int × (List al) → Option aC) : Int × (List al) → Option aC := fun (i_4, x6) =>
 (bif (decide (i_4 < sites)) then
 (chk (decide (x6.length + 1 ≤ lim)) (f11 ((w64 (i_4 + 1)), (x6 ++ [(⟨i_4, (w64 (i_4 + 1))⟩ : al)]))))
 else
 (some (⟨sites, x6, 3, [1, 2, 3], 3, 2, 2, 0, (⟨#[115]⟩ : ByteArray), 16777216, 4096, 100, 100, 100, 5, 2, 0⟩ : aC)))
def eG (sites : Int) : Option aC :=
 (loopN (jv sites) FU (1, []))
def l6 (room : Int) : Option aa :=
 (some (⟨(min (max room 0) 1073741824), ([] : List (ByteArray × (List UInt8))), ([] : List (ByteArray × (List UInt8))), []⟩ : aa))
def fI (v_0 : Int) (v_1 : Int) (f2 : Unit → Option Int) (i3 : Nat) (ei3 : al) : Unit → Option Int := fun _ =>
 (bif ((⟨v_0, v_1⟩ : al) == ei3) then
 (some (i3 : Int))
 else
 (f2 ()))
def dR (s_ : List al) (v_0 : Int) (v_1 : Int) : Option Int :=
 (forI (fI v_0 v_1) (fun _ =>
 (some (-1))) 0 s_ ())
def dk (s_ : List al) (v_0 : Int) (v_1 : Int) : Option Bool :=
 (Option.bind (dR s_ v_0 v_1) fun z2 => (some (decide (0 ≤ z2))))
def nR (members : List Int) (f1 : Unit → Option Bool) (i2 : Nat) (ei2 : Int) : Unit → Option Bool := fun _ =>
 (chk (imp ((!((decide (ei2 < 1)) || (decide (8 < ei2)))) && (decide (0 < (i2 : Int)))) (inb (w64 ((i2 : Int) - 1)) members.length)) (bif (((decide (ei2 < 1)) || (decide (8 < ei2))) || ((decide (0 < (i2 : Int))) && (decide (ei2 ≤ (gt members ((w64 ((i2 : Int) - 1)).toNat)))))) then
 (some false)
 else
 (f1 ())))
def j8 (members : List Int) : Option Bool :=
 (forI (nR members) (fun _ =>
 (some (decide (0 < (members.length : Int))))) 0 members ())
def nz (c_ : aC) (f2 : Unit → Option Bool) (i3 : Nat) (ei3 : al) : Unit → Option Bool := fun _ =>
 (Option.bind (kS (!(((decide (ei3.a0 < 1)) || (decide (ei3.a1 ≤ ei3.a0))) || (decide (c_.sites < ei3.a1)))) (dk (List.take i3 c_.links) (ei3.a0) (ei3.a1))) fun z26 => (bif ((((decide (ei3.a0 < 1)) || (decide (ei3.a1 ≤ ei3.a0))) || (decide (c_.sites < ei3.a1))) || z26) then
 (some false)
 else
 (f2 ())))
def mr (c_ : aC) : Option Bool :=
 (forI (nz c_) (fun _ =>
 (Option.bind (kS ((((decide (1 ≤ c_.sites)) && (decide (c_.sites ≤ 16))) && (decide (1 ≤ c_.nodes))) && (decide (c_.nodes ≤ 8))) (j8 c_.members)) fun z41 => (chk (imp (((((decide (1 ≤ c_.sites)) && (decide (c_.sites ≤ 16))) && (decide (1 ≤ c_.nodes))) && (decide (c_.nodes ≤ 8))) && z41) (inb (w64 ((c_.members.length : Int) - 1)) c_.members.length)) (some ((((((((((((((((((((((((((decide (1 ≤ c_.sites)) && (decide (c_.sites ≤ 16))) && (decide (1 ≤ c_.nodes))) && (decide (c_.nodes ≤ 8))) && z41) && (decide ((gt c_.members ((w64 ((c_.members.length : Int) - 1)).toNat)) ≤ c_.nodes))) && (decide (1 ≤ c_.n))) && (decide (c_.n ≤ (c_.members.length : Int)))) && (decide (1 ≤ c_.r))) && (decide (c_.r ≤ c_.n))) && (decide (1 ≤ c_.w_))) && (decide (c_.w_ ≤ c_.n))) && (decide (c_.n < (w64 (c_.r + c_.w_))))) && (decide (0 ≤ c_.group))) && (decide (1 ≤ (c_.secret.size : Int)))) && (decide ((c_.secret.size : Int) ≤ 64))) && (decide (0 ≤ c_.room))) && (decide (1 ≤ c_.cap))) && (decide (c_.cap ≤ 65536))) && (decide (0 ≤ c_.pend))) && (decide (0 ≤ c_.wait))) && (decide (1 ≤ c_.timeout))) && (decide (c_.timeout ≤ 1048576))) && (decide (1 ≤ c_.hintAfter))) && (decide (0 ≤ c_.base))) && (decide (c_.base ≤ 4611686018427387904))))))) 0 c_.links ())
def dV (s_ : List al) : Option (List al) :=
 (nilc s_.isEmpty (
 (some []))
 ((chk (decide (0 + s_.length ≤ lim)) (some (([] : List al) ++ s_)))))
def cy (s_ : List Int) : Option (List Int) :=
 (nilc s_.isEmpty (
 (some []))
 ((chk (decide (0 + s_.length ≤ lim)) (some (([] : List Int) ++ s_)))))
def nn (room : Int) : Option bm :=
 (some (⟨(max room 0), []⟩ : bm))
def jw (c_ : aD) (f2 : Unit → Option Bool) (i3 : Nat) (ei3 : Int) : Unit → Option Bool := fun _ =>
 (chk (imp ((!(((decide (ei3 < 1)) || (decide (c_.sites < ei3))) || (ei3 == c_.self))) && (decide (0 < (i3 : Int)))) (inb (w64 ((i3 : Int) - 1)) c_.links.length)) (bif ((((decide (ei3 < 1)) || (decide (c_.sites < ei3))) || (ei3 == c_.self)) || ((decide (0 < (i3 : Int))) && (decide (ei3 ≤ (gt c_.links ((w64 ((i3 : Int) - 1)).toNat)))))) then
 (some false)
 else
 (f2 ())))
def gO (c_ : aD) : Option Bool :=
 (forI (jw c_) (fun _ =>
 (Option.bind (kS ((((((((decide (1 ≤ c_.sites)) && (decide (c_.sites ≤ 16))) && (decide (1 ≤ c_.self))) && (decide (c_.self ≤ c_.sites))) && (decide (1 ≤ c_.cap))) && (decide (c_.cap ≤ 65536))) && (decide (0 ≤ c_.base))) && (decide (c_.base ≤ 4611686018427387904))) (j8 c_.members)) fun z57 => (some (((((((((decide (1 ≤ c_.sites)) && (decide (c_.sites ≤ 16))) && (decide (1 ≤ c_.self))) && (decide (c_.self ≤ c_.sites))) && (decide (1 ≤ c_.cap))) && (decide (c_.cap ≤ 65536))) && (decide (0 ≤ c_.base))) && (decide (c_.base ≤ 4611686018427387904))) && z57)))) 0 c_.links ())
def cU (s_ : ByteArray) (c_ : Int) : Option Int :=
 (some (ixb s_ c_))
def cv (s_ : ByteArray) : Option Int :=
 (bif ((⟨#[46]⟩ : ByteArray) == s_) then
 (some 0)
 else
 (Option.bind (cU s_ 46) fun z2 => (some z2)))
def jt (s_ : ByteArray) : Option Int :=
 (Option.bind (cv s_) fun z1 => (some z1))
def gU (s_ : ByteArray) : Option Bool :=
 (Option.bind (jt s_) fun z1 => (some (decide (0 ≤ z1))))
def ej (p__1 : ByteArray) (p__2 : Int) : Option ByteArray :=
 (some (p__1 ++ (⟨#[46, 109]⟩ : ByteArray)))
def er (s_ : List UInt8) : Option (List UInt8) :=
 (nilc s_.isEmpty (
 (some []))
 ((chk (decide (0 + s_.length ≤ lim)) (some (([] : List UInt8) ++ s_)))))
def ef (d : aa) (name : ByteArray) : Option ((List UInt8) × Bool) :=
 (Option.bind (er ((mget name d.seen).getD [])) fun z9 => (some (z9, ((mget name d.seen).isSome))))
def gj (e_6 : Int) : Option (Int × Int × Int) :=
 (some (0, 0, e_6))
def fC (b : List UInt8) (at_ : Int) (n_9 : Int) (f10 : Int → Option (Int × Int × Int)) (i11 : Nat) (x_17 : Bool) : Option (Int × Int × Int) :=
 (bif x_17 then
 (gj 2)
 else
 (bif (decide ((((gt (List.drop at_.toNat b) i11).toNat : Nat) : Int) < 128)) then
 (chk (decide (0 ≤ (w64 (7 * (i11 : Int))))) (some ((w64 (ior .u64 n_9 (ishl .u64 (wu64 (((gt (List.drop at_.toNat b) i11).toNat : Nat) : Int)) (w64 (7 * (i11 : Int)))))), (w64 ((w64 (at_ + (i11 : Int))) + 1)), 0)))
 else
 (chk (decide (0 ≤ (w64 (7 * (i11 : Int))))) (f10 (ior .u64 n_9 (ishl .u64 (wu64 (iand .u8 (((gt (List.drop at_.toNat b) i11).toNat : Nat) : Int) 127)) (w64 (7 * (i11 : Int)))))))))
def fH (b : List UInt8) (at_ : Int) (f10 : Int → Option (Int × Int × Int)) (i11 : Nat) (ei11 : UInt8) : Int → Option (Int × Int × Int) := fun n_9 =>
 (bif (((i11 : Int) == 8) && (decide (127 < (ei11.toNat : Int)))) then
 (fC b at_ n_9 f10 i11 (((i11 : Int) == 8) && (decide (127 < (ei11.toNat : Int)))))
 else
 (fC b at_ n_9 f10 i11 ((decide (0 < (i11 : Int))) && ((ei11.toNat : Int) == 0))))
def cT (b : List UInt8) (at_ : Int) : Option (Int × Int × Int) :=
 (bif ((decide (at_ < 0)) || (decide ((b.length : Int) < at_))) then
 (some (0, 0, 1))
 else
 (chk (inle at_ b.length) (forI (fH b at_) (fun n_9 =>
 (gj 4)) 0 (List.drop at_.toNat b) 0)))
def nA (f21 : Int → Option Int) (i22 : Nat) : Int → Option Int := fun r_20 =>
 (f21 (ixor .u32 (ishr .u32 r_20 1) (iand .u32 3988292384 (wu32 (0 - (iand .u32 r_20 1))))))
def nU (f13 : Int → Option Int) (i14 : Nat) (ei14 : UInt8) : Int → Option Int := fun r_12 =>
 (forU (nA) (fun r_20 =>
 (f13 r_20)) 8 0 (ixor .u32 r_12 (wu32 (ei14.toNat : Int))))
def nK (f2 : Int → Option Int) (i3 : Nat) (ei3 : (List UInt8)) : Int → Option Int := fun r_1 =>
 (forI (nU) (fun r_12 =>
 (f2 r_12)) 0 ei3 r_1)
def nb (parts : List (List UInt8)) : Option Int :=
 (forI (nK) (fun r_1 =>
 (some (icom .u32 r_1))) 0 parts 4294967295)
def nL (b : List UInt8) (z1 : Int × Int × Int) (z15 : Int) (f17 : Unit → Option ((List UInt8) × Int × Int)) (i18 : Nat) : Unit → Option ((List UInt8) × Int × Int) := fun _ =>
 (chk (inb (w64 (z1.2.1 + (i18 : Int))) b.length) (chk (decide (0 ≤ (w64 (8 * (i18 : Int))))) (bif ((((gt b ((w64 (z1.2.1 + (i18 : Int))).toNat)).toNat : Nat) : Int) != (wu8 (ishr .u32 z15 (w64 (8 * (i18 : Int)))))) then
 (some ([], 0, 20))
 else
 (f17 ()))))
def me (b : List UInt8) (at_ : Int) : Option ((List UInt8) × Int × Int) :=
 (Option.bind (cT b at_) fun z1 => (bif (z1.2.2 != 0) then
 (chk (i64b z1.2.2) (some ([], 0, z1.2.2)))
 else
 (bif (decide (1048576 < z1.1)) then
 (some ([], 0, 3))
 else
 (bif (decide ((w64 ((b.length : Int) - z1.2.1)) < (w64 (z1.1 + 4)))) then
 (some ([], 0, 4))
 else
 (chk (inle (w64 ((w64 (z1.2.1 + 4)) + z1.1)) b.length) (chk (decide (0 ≤ (w64 (z1.2.1 + 4)))) (chk (decide ((w64 (z1.2.1 + 4)).toNat ≤ (w64 ((w64 (z1.2.1 + 4)) + z1.1)).toNat)) (chk (inle z1.2.1 b.length) (chk (decide (0 ≤ at_)) (chk (decide (at_.toNat ≤ z1.2.1.toNat)) (Option.bind (nb [(List.drop at_.toNat (List.take z1.2.1.toNat b)), (List.drop ((w64 (z1.2.1 + 4)).toNat) (List.take ((w64 ((w64 (z1.2.1 + 4)) + z1.1)).toNat) b))]) fun z15 => (forU (nL b z1 z15) (fun _ =>
 (chk (decide (0 + (List.drop ((w64 (z1.2.1 + 4)).toNat) (List.take ((w64 ((w64 (z1.2.1 + 4)) + z1.1)).toNat) b)).length ≤ lim)) (some ((([] : List UInt8) ++ (List.drop ((w64 (z1.2.1 + 4)).toNat) (List.take ((w64 ((w64 (z1.2.1 + 4)) + z1.1)).toNat) b))), (w64 ((w64 (z1.2.1 + 4)) + z1.1)), 0)))) 4 0 ()))))))))))))
def kI (Y : ak → List UInt8 → Int → Option ak) (b0v : List UInt8) (f10 : Int × Int × ak → Option (ak × Int)) : Int × Int × ak → Option (ak × Int) := fun (at_3, x5, o7) =>
 (bif (decide (at_3 < (b0v.length : Int))) then
 (Option.bind (me b0v at_3) fun z15 => (bif (!(z15.2.2 != 0)) then
 (Option.bind (Y o7 z15.1 z15.2.1) fun z36 => (f10 (z15.2.1, z15.2.2, z36)))
 else
 (some (o7, z15.2.2))))
 else
 (some (o7, x5)))
def iS (Y : ak → List UInt8 → Int → Option ak) (sY : ak) (b0v : List UInt8) (b1v : Int) : Option (ak × Int) :=
 (loopN (kI Y b0v) FU (0, b1v, sY))

def iw (s : ak) (b : List UInt8) (n : Int) : Option ak := chk (decide (s.1.length + 1 ≤ lim)) (some (s.1 ++ [b], n))
def jO (b : List UInt8) : Option (List (List UInt8) × Int × Int) := Option.bind (iS iw ([], 0) b 0) fun z => some (z.1.1, z.1.2, z.2)
def iE (f34 : Int → Option (Int × Int × Int)) (i35 : Nat) (ei35 : (List UInt8)) : Int → Option (Int × Int × Int) := fun gen_33 =>
 (Option.bind (cT ei35 0) fun z44 => (bif ((((z44.2.2 != 0) || (z44.2.1 != (ei35.length : Int))) || (decide (z44.1 < 1))) || (decide (999999 < z44.1))) then
 (some (0, 0, 2))
 else
 (f34 z44.1)))
def m_seglog_place_holds (p__1 : ByteArray) (p__2 : Int) (dk0 : aa) : Option (Int × Int × Int) :=
 (Option.bind (ej p__1 p__2) fun z3 => (chk (decide (z3.size ≤ lim)) (Option.bind (ef dk0 z3) fun z6 => (Option.bind (jO z6.1) fun z21 => (forI (iE) (fun gen_33 =>
 (chk (i64b gen_33) (some (gen_33, z21.2.1, 0)))) 0 z21.1 0)))))
def eU (d : aa) : Option Int :=
 (some (d.loose.length : Int))
def nM (f1 : Unit → Option Bool) (i2 : Nat) (ei2 : ByteArray) : Unit → Option Bool := fun _ =>
 (bif ((decide ((ei2.size : Int) < 1)) || (decide (16 < (ei2.size : Int)))) then
 (some false)
 else
 (f1 ()))
def lH (names : List ByteArray) : Option Bool :=
 (forI (nM) (fun _ =>
 (some true)) 0 names ())
def eP (d : aa) (name : ByteArray) : Option Int :=
 (Option.bind (lH [name]) fun z3 => (bif (!z3) then
 (some 70)
 else
 (bif (!((mget name d.seen).isSome)) then
 (some 71)
 else
 (some 0))))
def ic (f_ : List (ByteArray × (List UInt8))) (b0 : ByteArray) (b1 : Int) : Option (List (ByteArray × (List UInt8))) :=
 (chk (inle b1 (((mget b0 f_).getD []).length)) (some (mput b0 (List.take b1.toNat ((mget b0 f_).getD [])) f_)))
def fQ (f_ : List (ByteArray × (List UInt8))) (b0 : ByteArray) : Option (List (ByteArray × (List UInt8))) :=
 (some (mdel b0 f_))
def eJ (s_ : List UInt8) : Option (List UInt8) :=
 (some s_)
def lM (f_ : List (ByteArray × (List UInt8))) (b0 : ByteArray) (b1 : (List UInt8)) : Option (List (ByteArray × (List UInt8))) :=
 (Option.bind (eJ ((mget b0 f_).getD [])) fun z9 => (chk (decide (((mget b0 f_).getD []).length + b1.length ≤ lim)) (some (mput b0 (((mget b0 f_).getD []) ++ b1) f_))))
def f0 (x : aj) (f_ : List (ByteArray × (List UInt8))) : Option (List (ByteArray × (List UInt8))) :=
  match x with
  | .disk_Disk_Cut_1 a0 a1 => ic f_ a0 a1
  | .disk_Disk_Remove_1 a0 => fQ f_ a0
  | .disk_add_1 a0 a1 => lM f_ a0 a1
def fB (d : aa) (c_ : aE) : Option (aa × Int) :=
 (Option.bind (f0 c_.do_ d.seen) fun z4 => (chk (decide (d.loose.length + 1 ≤ lim)) (some ((⟨d.room, d.safe_, z4, (d.loose ++ [c_])⟩ : aa), 0))))
def jp (d : aa) (name : ByteArray) (n : Int) : Option (aa × Int) :=
 (Option.bind (eP d name) fun z3 => (bif (z3 != 0) then
 (chk (i64b z3) (some (d, z3)))
 else
 (bif ((decide (n < 0)) || (decide (((((mget name d.seen).getD []).length : Nat) : Int) < n))) then
 (some (d, 1))
 else
 (Option.bind (fB d (⟨(aj.disk_Disk_Cut_1 name n), ByteArray.empty, []⟩ : aE)) fun z36 => (some (z36.1, z36.2))))))
def dt (p__1 : ByteArray) (p__2 : Int) (f_ : ByteArray) (n : Int) (dk0 : aa) : Option aa :=
 (Option.bind (ef dk0 f_) fun z2 => (bif (decide (n < (z2.1.length : Int))) then
 (Option.bind (jp dk0 f_ n) fun z13 => (some z13.1))
 else
 (some dk0)))
def hO (d : aa) : Option (List ByteArray) :=
 (chk (decide (d.seen.length ≤ lim)) (some (fh d.seen)))
def cV (s_ : ByteArray) (prefix_ : ByteArray) : Option Bool :=
 (chk (imp (decide ((prefix_.size : Int) ≤ (s_.size : Int))) (decide (prefix_.size ≤ s_.size))) (some ((decide ((prefix_.size : Int) ≤ (s_.size : Int))) && ((s_.extract 0 prefix_.size) == prefix_))))
def cX (s_ : ByteArray) (prefix_ : ByteArray) : Option (ByteArray × Bool) :=
 (Option.bind (cV s_ prefix_) fun z1 => (bif (!z1) then
 (some (s_, false))
 else
 (chk (decide (prefix_.size ≤ s_.size)) (some ((s_.extract prefix_.size s_.size), true)))))
def ga (s_ : ByteArray) (prefix_ : ByteArray) : Option (ByteArray × Bool) :=
 (Option.bind (cX s_ prefix_) fun z1 => (some (z1.1, z1.2)))
def dY (s_ : ByteArray) : Option (ByteArray × ByteArray × Bool) :=
 (Option.bind (cv s_) fun z1 => (bif (decide (0 ≤ z1)) then
 (chk (inle z1 s_.size) (chk (inle (w64 (z1 + 1)) s_.size) (some ((s_.extract 0 z1.toNat), (s_.extract ((w64 (z1 + 1)).toNat) s_.size), true))))
 else
 (some (s_, ByteArray.empty, false))))
def kR (s_ : ByteArray) : Option (ByteArray × ByteArray × Bool) :=
 (Option.bind (dY s_) fun z1 => (some (z1.1, z1.2.1, z1.2.2)))
def py (f22 : Int → Option (Int × Int)) (i23 : Nat) (ei23 : UInt8) : Int → Option (Int × Int) := fun n_20 =>
 (bif ((decide ((ei23.toNat : Int) < 48)) || (decide (57 < (ei23.toNat : Int)))) then
 (some (0, 2))
 else
 (f22 (wu64 ((wu64 (10 * n_20)) + (wu64 (wu8 ((ei23.toNat : Int) - 48)))))))
def la (s_ : ByteArray) : Option (Int × Int) :=
 (chk (imp ((!(s_ == ByteArray.empty)) && (decide (1 < (s_.size : Int)))) (decide (0 < s_.size))) (bif (((s_ == ByteArray.empty) || ((decide (1 < (s_.size : Int))) && ((((gt s_.data.toList 0).toNat : Nat) : Int) == 48))) || (decide (19 < (s_.size : Int)))) then
 (some (0, 2))
 else
 (forI (py) (fun n_20 =>
 (bif (decide (9223372036854775808 ≤ n_20)) then
 (some (0, 2))
 else
 (some ((w64 n_20), 0)))) 0 (s_.data.toList) 0)))
def gX (Y : ae → ByteArray → Int → Int → Option ae) (b0v1 : ByteArray) (f16 : ae → Option ae) (i17 : Nat) (ei17 : ByteArray) : ae → Option ae := fun o13 =>
 (chk (decide ((b0v1 ++ (⟨#[46]⟩ : ByteArray)).size ≤ lim)) (Option.bind (ga ei17 (b0v1 ++ (⟨#[46]⟩ : ByteArray))) fun z24 => (chk (decide (z24.1.size ≤ lim)) (Option.bind (kR z24.1) fun z27 => (chk (decide (z27.1.size ≤ lim)) (Option.bind (la z27.1) fun z30 => (chk (decide (z27.2.1.size ≤ lim)) (Option.bind (la z27.2.1) fun z33 => (bif ((((((z24.2 && z27.2.2) && (z30.2 == 0)) && (z33.2 == 0)) && (decide (z30.1 ≤ 999999))) && (decide (1 ≤ z33.1))) && (decide (z33.1 ≤ 999999))) then
 (chk (i64b z30.1) (chk (i64b z33.1) (Option.bind (Y o13 ei17 z30.1 z33.1) fun z54 => (f16 z54))))
 else
 (f16 o13))))))))))
def eQ (Y : ae → ByteArray → Int → Int → Option ae) (sY : ae) (b0v0 : aa) (b0v1 : ByteArray) (b0v2 : Int) : Option ae :=
 (Option.bind (hO b0v0) fun z1 => (forI (gX Y b0v1) (fun o13 =>
 (some o13)) 0 z1 sY))
def gJ (d : aa) (name : ByteArray) : Option (aa × Int) :=
 (Option.bind (eP d name) fun z2 => (bif (z2 != 0) then
 (chk (i64b z2) (some (d, z2)))
 else
 (Option.bind (fB d (⟨(aj.disk_Disk_Remove_1 name), ByteArray.empty, []⟩ : aE)) fun z11 => (some (z11.1, z11.2)))))

def fx (pred : Int → Int → Option Bool) (s : ae) (f : ByteArray) (g n : Int) : Option ae := Option.bind (pred g n) fun q => bif q then chk (decide (s.length + 1 ≤ lim)) (some (s ++ [f])) else some s
def lq (k : aa → Option aa) (i : Nat) (f : ByteArray) (d : aa) : Option aa := Option.bind (gJ d f) fun z => k z.1
def dF (d : aa) (name : ByteArray) (gen : Int) (pred : Int → Int → Option Bool) : Option aa := Option.bind (eQ (fx pred) [] d name gen) fun l => forI lq some 0 l d
def fX (g_ : Int) (a1 : Int) (b0v : Int) : Option Bool :=
 (some (g_ != b0v))
def fV (at_24 : Int) (x26 : List UInt8) : Option ByteArray :=
 (chk (inle at_24 20) (some (⟨(List.drop at_24.toNat x26).toArray⟩ : ByteArray)))
def nF (n : Int) (f14 : Int × Int × (List UInt8) → Option ByteArray) : Int × Int × (List UInt8) → Option ByteArray := fun (at_6, u_8, x10) =>
 (bif ((at_6 == 20) || (decide (0 < u_8))) then
 (chk (inb (w64 (at_6 - 1)) 20) (f14 ((w64 (at_6 - 1)), (wu64 (u_8.tdiv 10)), (List.set x10 ((w64 (at_6 - 1)).toNat) (b8 (wu8 (wu64 (48 + (u_8.tmod 10)))))))))
 else
 (bif (decide (n < 0)) then
 (chk (inb (w64 (at_6 - 1)) 20) (fV (w64 (at_6 - 1)) (List.set x10 ((w64 (at_6 - 1)).toNat) (b8 45))))
 else
 (fV at_6 x10)))
def fR (n : Int) (u_3 : Int) : Option ByteArray :=
 (loopN (nF n) FU (20, u_3, (List.replicate 20 (b8 0))))
def j9 (n : Int) : Option ByteArray :=
 (bif (decide (n < 0)) then
 (fR n (wu64 (0 - (wu64 n))))
 else
 (fR n (wu64 n)))
def fZ (p__1 : ByteArray) (p__2 : Int) (gen : Int) (part : Int) : Option ByteArray :=
 (Option.bind (j9 gen) fun z2 => (chk (decide ((p__1 ++ (⟨#[46]⟩ : ByteArray)).size ≤ lim)) (chk (decide (z2.size ≤ lim)) (chk (decide (((p__1 ++ (⟨#[46]⟩ : ByteArray)) ++ z2).size ≤ lim)) (Option.bind (j9 part) fun z7 => (chk (decide ((((p__1 ++ (⟨#[46]⟩ : ByteArray)) ++ z2) ++ (⟨#[46]⟩ : ByteArray)).size ≤ lim)) (chk (decide (z7.size ≤ lim)) (some ((((p__1 ++ (⟨#[46]⟩ : ByteArray)) ++ z2) ++ (⟨#[46]⟩ : ByteArray)) ++ z7)))))))))
def dW (out_3 : List (List UInt8)) (o8 : aq) (o11 : aa) : Option (aq × aa × (List (List UInt8))) :=
 (some ((⟨o8.place_name, o8.place_gen, o8.size, o8.last, o8.tail, (out_3.length : Int), o8.bytes⟩ : aq), o11, out_3))
def k4 (f28 : (List (List UInt8)) × Bool × aq × aa → Option (aq × aa × (List (List UInt8)))) : (List (List UInt8)) × Bool × aq × aa → Option (aq × aa × (List (List UInt8))) := fun (out_16, whole_21, o22, o25) =>
 (bif (whole_21 && (decide (o22.last < 999999))) then
 (Option.bind (fZ o22.place_name o22.place_gen o22.place_gen (w64 (o22.last + 1))) fun z40 => (chk (decide (z40.size ≤ lim)) (Option.bind (ef o25 z40) fun z43 => (bif (!z43.2) then
 (dW out_16 o22 o25)
 else
 (Option.bind (jO z43.1) fun z60 => (Option.bind (dt o22.place_name o22.place_gen z40 z60.2.1 o25) fun z72 => (chk (decide (out_16.length + z60.1.length ≤ lim)) (f28 ((out_16 ++ z60.1), (z60.2.1 == (z43.1.length : Int)), (⟨o22.place_name, o22.place_gen, o22.size, (w64 (o22.last + 1)), z60.2.1, o22.count, (w64 (o22.bytes + z60.2.1))⟩ : aq), z72)))))))))
 else
 (dW out_16 o22 o25))
def ib (l : aq) (dk0 : aa) : Option (aq × aa × (List (List UInt8))) :=
 (loopN (k4) FU ([], true, l, dk0))
def fY (a0 : Int) (n : Int) (b0v : aq) : Option Bool :=
 (some (decide (b0v.last < n)))
def iG (d : aa) : Option aa :=
 (some (⟨d.room, d.seen, d.seen, []⟩ : aa))
def fo (z48 : aq × aa × (List (List UInt8))) (o74 : aa) : Option (aa × (Option aq) × (List (List UInt8)) × Int) :=
 (some (o74, (some z48.1), z48.2.2, 0))
def kT (d : aa) (name : ByteArray) (size : Int) : Option (aa × (Option aq) × (List (List UInt8)) × Int) :=
 (Option.bind (kS (!((decide ((name.size : Int) < 1)) || (decide (2 < (name.size : Int))))) (gU name)) fun z6 => (bif (((decide ((name.size : Int) < 1)) || (decide (2 < (name.size : Int)))) || z6) then
 (some (d, none, [], 1))
 else
 (Option.bind (m_seglog_place_holds name 0 d) fun z10 => (bif (z10.2.2 != 0) then
 (some (d, none, [], z10.2.2))
 else
 (Option.bind (eU d) fun z21 => (Option.bind (ej name z10.1) fun z24 => (chk (decide (z24.size ≤ lim)) (Option.bind (dt name z10.1 z24 z10.2.1 d) fun z27 => (Option.bind (dF z27 name z10.1 (fun x y => fX x y z10.1)) fun z37 => (Option.bind (ib (⟨name, z10.1, (max size 16), 0, 0, 0, 0⟩ : aq) z37) fun z48 => (Option.bind (dF z48.2.1 name z10.1 (fun x y => fY x y z48.1)) fun z64 => (Option.bind (eU z64) fun z77 => (bif (z77 != z21) then
 (Option.bind (iG z64) fun z80 => (fo z48 z80))
 else
 (fo z48 z64))))))))))))))
def nQ (c_ : aD) (z5 : aa × (Option aq) × (List (List UInt8)) × Int) (z22 : List Int) (z32 : aq) (z36 : List Int) (x49 : List Int) (f84 : Unit → Option (aa × (Option ay) × Int)) : Unit → Option (aa × (Option ay) × Int) := fun _ =>
 (bif (decide (0 < (z5.2.2.1.length : Int))) then
 (chk (decide (0 < z5.2.2.1.length)) none)
 else
 (some (z5.1, (some (⟨c_.self, c_.sites, z22, c_.cap, c_.base, c_.members, z32, x49, none, ([] : List fa), 1, ([] : List (Int × Bool)), z36⟩ : ay)), 0)))
def nI (c_ : aD) (f54 : List Int → Option (aa × (Option ay) × Int)) (i55 : Nat) : List Int → Option (aa × (Option ay) × Int) := fun x49 =>
 (chk (decide (x49.length + 1 ≤ lim)) (f54 (x49 ++ [c_.base])))
def lw (d : aa) (size : Int) (c_ : aD) : Option (aa × (Option ay) × Int) :=
 (Option.bind (gO c_) fun z2 => (bif (!z2) then
 (some (d, none, 1))
 else
 (Option.bind (kT d (⟨#[103]⟩ : ByteArray) size) fun z5 => (bif (z5.2.2.2 != 0) then
 (some (z5.1, none, z5.2.2.2))
 else
 (Option.bind (cy c_.links) fun z22 => (Option.bind z5.2.1 fun z32 => (Option.bind (cy c_.members) fun z36 => (forU (nI c_) (fun x49 =>
 (loopN (nQ c_ z5 z22 z32 z36 x49) FU ())) c_.sites.toNat 0 []))))))))
def e6 (f66 : List Int → Option (aa × (Option au) × Int)) (x73 : List Int) : Option (aa × (Option au) × Int) :=
 (f66 x73)
def oD (self : Int) (f66 : List Int → Option (aa × (Option au) × Int)) (i67 : Nat) (ei67 : al) : List Int → Option (aa × (Option au) × Int) := fun x61 =>
 (bif (ei67.a0 == self) then
 (chk (decide (x61.length + 1 ≤ lim)) (e6 f66 (x61 ++ [ei67.a1])))
 else
 (bif (ei67.a1 == self) then
 (chk (decide (x61.length + 1 ≤ lim)) (e6 f66 (x61 ++ [ei67.a0])))
 else
 (e6 f66 x61)))
def jC (c_ : aC) (self : Int) (boot : Int) (d : aa) (x17 : List al) (x22 : List Int) : Option (aa × (Option au) × Int) :=
 (Option.bind (nn c_.pend) fun z49 => (forI (oD self) (fun x61 =>
 (Option.bind (lw d c_.seg (⟨self, c_.sites, (srtI x61), c_.cap, c_.base, x22⟩ : aD)) fun z112 => (bif (z112.2.2 != 0) then
 (some (z112.1, none, z112.2.2))
 else
 (Option.bind z112.2.1 fun z125 => (chk (i64b (ishl .i64 boot 32)) (some (z112.1, (some (⟨c_.sites, x17, c_.nodes, x22, c_.n, c_.r, c_.w_, c_.group, c_.secret, c_.room, c_.seg, c_.cap, c_.pend, c_.wait, c_.timeout, c_.hintAfter, c_.base, self, (srtI x61), z125, (ishl .i64 boot 32)⟩ : au)), 0))))))) 0 x17 []))
def k0 (c_ : aC) (self : Int) (boot : Int) (d : aa) : Option (aa × (Option au) × Int) :=
 (Option.bind (mr c_) fun z2 => (bif (((((!z2) || (decide (self < 1))) || (decide (c_.sites < self))) || (decide (boot < 0))) || (decide (1073741824 ≤ boot))) then
 (some (d, none, 205))
 else
 (Option.bind (dV c_.links) fun z28 => (Option.bind (cy c_.members) fun z38 => (jC c_ self boot d z28 z38)))))
def df (secret : ByteArray) (group : Int) : Option Bool :=
 (some (((secret != ByteArray.empty) && (decide ((secret.size : Int) ≤ 64))) && (decide (0 ≤ group))))
def eb (d : Dot) : Option Bool :=
 (some ((((decide (1 ≤ d.s)) && (decide (d.s ≤ 16))) && (decide (1 ≤ d.n))) && (decide (d.n ≤ 4611686018427387904))))
def fj (l : List Span) (f2 : Unit → Option Bool) (i3 : Nat) (ei3 : Span) : Unit → Option Bool := fun _ =>
 (Option.bind (eb (⟨ei3.s, ei3.f⟩ : Dot)) fun z9 => (Option.bind (kS (!(!z9)) (eb (⟨ei3.s, ei3.t⟩ : Dot))) fun z23 => (bif (((!z9) || (!z23)) || (decide (ei3.t < ei3.f))) then
 (some false)
 else
 (chk (imp (decide (0 < (i3 : Int))) (inb (w64 ((i3 : Int) - 1)) l.length)) (bif ((decide (0 < (i3 : Int))) && ((decide (ei3.s < (gt l ((w64 ((i3 : Int) - 1)).toNat)).s)) || ((ei3.s == (gt l ((w64 ((i3 : Int) - 1)).toNat)).s) && (decide ((w64 (ei3.f - 1)) ≤ (gt l ((w64 ((i3 : Int) - 1)).toNat)).t))))) then
 (some false)
 else
 (f2 ()))))))
def cJ (l : List Span) : Option Bool :=
 (bif (decide (1024 < (l.length : Int))) then
 (some false)
 else
 (forI (fj l) (fun _ =>
 (some true)) 0 l ()))
def aO (f11 : Int × (List UInt8) → Option (List UInt8)) : Int × (List UInt8) → Option (List UInt8) := fun (n_4, b_6) =>
 (bif (decide (128 ≤ n_4)) then
 (chk (decide (b_6.length + 1 ≤ lim)) (f11 ((w64 (n_4.tdiv 128)), (b_6 ++ [(b8 (wu8 (w64 ((n_4.tmod 128) + 128))))]))))
 else
 (chk (decide (b_6.length + 1 ≤ lim)) (some (b_6 ++ [(b8 (wu8 n_4))]))))
def cz (n_1 : Int) : Option (List UInt8) :=
 (loopN (aO) FU (n_1, []))
def aG (n : Int) : Option (List UInt8) :=
 (bif (decide (n < 0)) then
 (cz 0)
 else
 (cz n))
def bE (f8 : List UInt8 → Option (List UInt8)) (i9 : Nat) (ei9 : Int) : List UInt8 → Option (List UInt8) := fun b_3 =>
 (Option.bind (aG ei9) fun z15 => (chk (decide (b_3.length + z15.length ≤ lim)) (f8 (b_3 ++ z15))))
def dK (b : List UInt8) (l : List Int) : Option (List UInt8) :=
 (forI (bE) (fun b_3 =>
 (some b_3)) 0 l b)
def bz (f25 : List UInt8 → Option (List UInt8)) (i26 : Nat) (ei26 : Span) : List UInt8 → Option (List UInt8) := fun b_20 =>
 (Option.bind (dK b_20 [ei26.s, ei26.f, (w64 (ei26.t - ei26.f))]) fun z40 => (f25 z40))
def dw (b : List UInt8) (l : List Span) : Option (List UInt8) :=
 (Option.bind (dK b [(l.length : Int)]) fun z8 => (forI (bz) (fun b_20 =>
 (some b_20)) 0 l z8))
def ek (l : List Span) : Option (List UInt8) :=
 (Option.bind (dw [] l) fun z1 => (some z1))
def iC (s_ : ByteArray) (f16 : List UInt8 → Option (List UInt8)) (i17 : Nat) : List UInt8 → Option (List UInt8) := fun b_11 =>
 (chk (decide (b_11.length + 1 ≤ lim)) (f16 (b_11 ++ [(gt s_.data.toList i17)])))
def dZ (s_ : ByteArray) : Option (List UInt8) :=
 (Option.bind (aG (s_.size : Int)) fun z1 => (forU (iC s_) (fun b_11 =>
 (some b_11)) s_.size 0 z1))
def cW (f3 : Int → Option Int) (i4 : Nat) (ei4 : UInt8) : Int → Option Int := fun h_1 =>
 (f3 (wu64 ((ixor .u64 h_1 (wu64 (ei4.toNat : Int))) * 1099511628211)))
def cZ (b : List UInt8) : Option Int :=
 (forI (cW) (fun h_1 =>
 (some (ixor .u64 (wu64 ((ixor .u64 h_1 (wu64 (h_1.tdiv 8589934592))) * 18397679294719823053)) (wu64 ((wu64 ((ixor .u64 h_1 (wu64 (h_1.tdiv 8589934592))) * 18397679294719823053)).tdiv 8589934592))))) 0 b 14695981039346656037)
def fP (f70 : Int × (List UInt8) → Option (List UInt8)) (i71 : Nat) : Int × (List UInt8) → Option (List UInt8) := fun (h_64, m_65) =>
 (chk (decide (m_65.length + 1 ≤ lim)) (f70 ((wu64 (h_64 * 256)), (m_65 ++ [(b8 (wu8 (wu64 (h_64.tdiv 72057594037927936))))]))))
def cu (secret : ByteArray) (b : List UInt8) : Option (List UInt8) :=
 (Option.bind (dZ secret) fun z1 => (chk (decide (0 + z1.length ≤ lim)) (chk (decide (z1.length + b.length ≤ lim)) (Option.bind (cZ (z1 ++ b)) fun z21 => (Option.bind (aG (w64 (wu64 (z21.tdiv 4294967296)))) fun z27 => (chk (decide (z1.length + z27.length ≤ lim)) (Option.bind (aG (w64 (z21.tmod 4294967296))) fun z42 => (chk (decide ((z1 ++ z27).length + z42.length ≤ lim)) (chk (decide (((z1 ++ z27) ++ z42).length + z1.length ≤ lim)) (Option.bind (cZ (((z1 ++ z27) ++ z42) ++ z1)) fun z62 => (forU (fP) (fun (h_64, m_65) =>
 (some m_65)) 8 0 (z62, []))))))))))))

def dI (secret : ByteArray) (group : Int) (l : List Span) : Option ((List UInt8) × Int) :=
 (Option.bind (df secret group) fun z1 => (Option.bind (kS (!(!z1)) (cJ l)) fun z5 => (bif ((!z1) || (!z5)) then
 (some ([], 1))
 else
 (Option.bind (aG 1) fun z9 => (Option.bind (aG group) fun z19 => (chk (decide (z9.length + z19.length ≤ lim)) (Option.bind (ek l) fun z34 => (chk (decide ((z9 ++ z19).length + z34.length ≤ lim)) (Option.bind (cu secret ((z9 ++ z19) ++ z34)) fun z49 => (chk (decide (((z9 ++ z19) ++ z34).length + z49.length ≤ lim)) (some ((((z9 ++ z19) ++ z34) ++ z49), 0))))))))))))
def bN (b : List UInt8) (f9 : Int × Int × Int × Int → Option (Int × Int × Int)) : Int × Int × Int × Int → Option (Int × Int × Int) := fun (at_1, n_3, one_5, i_7) =>
 (bif (decide (at_1 < (b.length : Int))) then
 (chk (inb at_1 b.length) (bif (((i_7 == 8) && (decide (127 < (w64 (((gt b at_1.toNat).toNat : Nat) : Int))))) || ((decide (0 < i_7)) && ((w64 (((gt b at_1.toNat).toNat : Nat) : Int)) == 0))) then
 (some (0, 0, 2))
 else
 (bif (decide ((w64 (((gt b at_1.toNat).toNat : Nat) : Int)) < 128)) then
 (some ((w64 (n_3 + (w64 (((w64 (((gt b at_1.toNat).toNat : Nat) : Int)).tmod 128) * one_5)))), (w64 (at_1 + 1)), 0))
 else
 (f9 ((w64 (at_1 + 1)), (w64 (n_3 + (w64 (((w64 (((gt b at_1.toNat).toNat : Nat) : Int)).tmod 128) * one_5)))), (w64 (one_5 * 128)), (w64 (i_7 + 1)))))))
 else
 (some (0, 0, 4)))
def bD (b : List UInt8) (at_ : Int) : Option (Int × Int × Int) :=
 (loopN (bN b) FU (at_, 0, 1, 0))
def aL (r_ : af) : Option (af × Int) :=
 (bif r_.bad then
 (some (r_, 0))
 else
 (Option.bind (bD r_.b r_.at_) fun z4 => (bif (z4.2.2 != 0) then
 (some ((⟨r_.b, r_.at_, true⟩ : af), 0))
 else
 (chk (i64b z4.2.1) (chk (i64b z4.1) (some ((⟨r_.b, z4.2.1, r_.bad⟩ : af), z4.1)))))))
def ba (r_ : af) : Option (af × Int) :=
 (Option.bind (aL r_) fun z1 => (bif (decide ((w64 ((z1.1.b.length : Int) - z1.1.at_)) < z1.2)) then
 (some ((⟨z1.1.b, z1.1.at_, true⟩ : af), 0))
 else
 (some (z1.1, z1.2))))
def az (z1 : af × Int) (f22 : (List Span) × Int × af → Option (af × (List Span))) : (List Span) × Int × af → Option (af × (List Span)) := fun (out_12, i_17, o19) =>
 (bif ((decide (i_17 < z1.2)) && (!o19.bad)) then
 (Option.bind (aL o19) fun z35 => (Option.bind (aL z35.1) fun z44 => (Option.bind (aL z44.1) fun z53 => (bif ((decide (4611686018427387904 < z44.2)) || (decide (4611686018427387904 < z53.2))) then
 (some ((⟨z53.1.b, z53.1.at_, true⟩ : af), []))
 else
 (chk (decide (out_12.length + 1 ≤ lim)) (f22 ((out_12 ++ [(⟨z35.2, z44.2, (w64 (z44.2 + z53.2))⟩ : Span)]), (w64 (i_17 + 1)), z53.1)))))))
 else
 (some (o19, out_12)))
def bc (r_ : af) : Option (af × (List Span)) :=
 (Option.bind (ba r_) fun z1 => (loopN (az z1) FU ([], 0, z1.1)))
def bG (b : List UInt8) : Option ((List Span) × Int) :=
 (Option.bind (bc (⟨b, 0, false⟩ : af)) fun z3 => (Option.bind (kS (!(z3.1.bad || (z3.1.at_ != (b.length : Int)))) (cJ z3.2)) fun z25 => (bif ((z3.1.bad || (z3.1.at_ != (b.length : Int))) || (!z25)) then
 (some ([], 2))
 else
 (some (z3.2, 0)))))
def dN (secret : ByteArray) (group : Int) (b : List UInt8) : Option ((List Span) × Int) :=
 (Option.bind (df secret group) fun z1 => (bif (!z1) then
 (some ([], 1))
 else
 (bif ((b.length : Int) == 0) then
 (some ([], 0))
 else
 (bif (decide ((w64 ((b.length : Int) - 8)) < 0)) then
 (some ([], 130))
 else
 (chk (inle (w64 ((b.length : Int) - 8)) b.length) (Option.bind (bD (List.take ((w64 ((b.length : Int) - 8)).toNat) b) 0) fun z7 => (bif ((z7.2.2 != 0) || (z7.1 != 1)) then
 (some ([], 130))
 else
 (chk (i64b z7.2.1) (Option.bind (bD (List.take ((w64 ((b.length : Int) - 8)).toNat) b) z7.2.1) fun z13 => (bif (z13.2.2 != 0) then
 (some ([], 130))
 else
 (chk (decide (0 ≤ z13.2.1)) (chk (decide (z13.2.1.toNat ≤ (w64 ((b.length : Int) - 8)).toNat)) (Option.bind (bG (List.drop z13.2.1.toNat (List.take ((w64 ((b.length : Int) - 8)).toNat) b))) fun z18 => (bif (z18.2 != 0) then
 (some ([], 130))
 else
 (bif (z13.1 != group) then
 (some ([], 131))
 else
 (Option.bind (cu secret (List.take ((w64 ((b.length : Int) - 8)).toNat) b)) fun z32 => (bif ((⟨(List.drop ((w64 ((b.length : Int) - 8)).toNat) b).toArray⟩ : ByteArray) != (⟨z32.toArray⟩ : ByteArray)) then
 (some ([], 132))
 else
 (some (z18.1, 0)))))))))))))))))))
def eS (d : Dot) (f2 : Unit → Option Bool) (i3 : Nat) (ei3 : Int) : Unit → Option Bool := fun _ =>
 (bif ((i3 : Int) == (w64 (d.s - 1))) then
 (some ((decide (0 < d.n)) && (decide (d.n ≤ ei3))))
 else
 (f2 ()))
def d8 (v_ : List Int) (d : Dot) : Option Bool :=
 (forI (eS d) (fun _ =>
 (some false)) 0 v_ ())
def bQ (v_ : List Int) (f1 : Unit → Option Bool) (i2 : Nat) (ei2 : Span) : Unit → Option Bool := fun _ =>
 (Option.bind (d8 v_ (⟨ei2.s, ei2.t⟩ : Dot)) fun z8 => (bif (!z8) then
 (some false)
 else
 (f1 ())))
def cL (v_ : List Int) (l : List Span) : Option Bool :=
 (forI (bQ v_) (fun _ =>
 (some true)) 0 l ())
def lk (secret : ByteArray) (group : Int) : Option Bool :=
 (some (((decide (1 ≤ (secret.size : Int))) && (decide ((secret.size : Int) ≤ 64))) && (decide (0 ≤ group))))
def cY (r_ : ac) (z2 : Int × Int × Int)  : Option (Option (ac × Int)) :=
 (chk (i64b z2.2.1) (chk (i64b z2.1) (some (some ((⟨r_.b, z2.2.1⟩ : ac), z2.1)))))
def b7 (r_ : ac) : Option (Option (ac × Int)) :=
 (Option.bind (cT r_.b r_.at_) fun z2 => (bif (z2.2.2 != 0) then
 (some none)
 else
 (cY r_ z2 )))
def cq (r_ : ac) : Option (Option (ac × Int)) :=
 (Option.bind (b7 r_) fun z1 => (optm z1
 (some none)
 fun o3 =>
 (some (some (o3.1, o3.2)))))
def cO (x29 : Span) (o31 : ac)  : Option (Option (ac × Span)) :=
 (some (some (o31, x29)))
def cN (x29 : Span) (o31 : ac) : Option (Option (ac × Span)) :=
 (bif (decide (x29.t < x29.f)) then
 (some none)
 else
 (cO x29 o31 ))
def bT (r_ : ac) : Option (Option (ac × Span)) :=
 (Option.bind (cq r_) fun z2 => (optm z2
 (some none)
 fun o4 =>
 (Option.bind (b7 o4.1) fun z15 => (optm z15
 (some none)
 fun o17 =>
 (Option.bind (b7 o17.1) fun z35 => (optm z35
 (some none)
 fun o37 =>
 (cN (⟨o4.2, o17.2, (w64 (o17.2 + o37.2))⟩ : Span) o37.1)))))))
def aF (f28 : (List Span) × ac → Option (Option (ac × (List Span)))) (i29 : Nat) : (List Span) × ac → Option (Option (ac × (List Span))) := fun (out_20, o25) =>
 (Option.bind (bT o25) fun z35 => (optm z35
 (some none)
 fun o37 =>
 (chk (decide (out_20.length + 1 ≤ lim)) (f28 ((out_20 ++ [o37.2]), o37.1)))))
def cn (o3 : ac × Int)  : Option (Option (ac × (List Span))) :=
 (forU (aF) (fun (out_20, o25) =>
 (some (some (o25, out_20)))) o3.2.toNat 0 ([], o3.1))
def bH (r_ : ac) : Option (Option (ac × (List Span))) :=
 (Option.bind (b7 r_) fun z1 => (optm z1
 (some none)
 fun o3 =>
 (bif (decide ((w64 ((o3.1.b.length : Int) - o3.1.at_)) < o3.2)) then
 (some none)
 else
 (cn o3 ))))
def gw (r_ : ac) : Option (Option (ac × (List Span))) :=
 (Option.bind (bH r_) fun z1 => (optm z1
 (some none)
 fun o3 =>
 (some (some (o3.1, o3.2)))))

def da (b0v : List Span) (b1v : Int) : Option ((List Span) × Int) :=
 (some ([], 2))
def eB (f4 : Span → Option Bool) (i5 : Nat) (ei5 : Span) : Span → Option Bool := fun x2 =>
 (bif (((((((decide (ei5.s < 1)) || (decide (16 < ei5.s))) || (decide (ei5.f < 1))) || (decide (ei5.t < ei5.f))) || (decide (4611686018427387904 < ei5.t))) || (decide (ei5.s < x2.s))) || ((ei5.s == x2.s) && (decide (ei5.f ≤ (w64 (x2.t + 1)))))) then
 (some false)
 else
 (f4 ei5))
def ee (l : List Span) : Option Bool :=
 (forI (eB) (fun x2 =>
 (some (decide ((l.length : Int) ≤ 1024)))) 0 l (⟨0, 0, 0⟩ : Span))
def cg (o7 : ac × (List Span))  : Option ((List Span) × Int) :=
 (some (o7.2, 0))
def cP (b : List UInt8) : Option ((List Span) × Int) :=
 (Option.bind (gw (⟨b, 0⟩ : ac)) fun z5 => (optm z5
 (Option.bind (da [] 0) fun z10 => (some (z10.1, z10.2)))
 fun o7 =>
 (Option.bind (kS (!(o7.1.at_ != (b.length : Int))) (ee o7.2)) fun z40 => (bif ((o7.1.at_ != (b.length : Int)) || (!z40)) then
 (Option.bind (da o7.2 0) fun z46 => (some (z46.1, z46.2)))
 else
 (cg o7 )))))
def dQ (b : List UInt8) : Option ((List Span) × Int) :=
 (Option.bind (cP b) fun z1 => (some (z1.1, z1.2)))
def cR (f7 : (List UInt8) × Int → Option (List UInt8)) : (List UInt8) × Int → Option (List UInt8) := fun (b_1, u_6) =>
 (bif (decide (127 < u_6)) then
 (chk (u8b (ior .u8 (wu8 u_6) 128)) (chk (decide (b_1.length + 1 ≤ lim)) (f7 ((b_1 ++ [(b8 (ior .u8 (wu8 u_6) 128))]), (ishr .u64 u_6 7)))))
 else
 (chk (decide (b_1.length + 1 ≤ lim)) (some (b_1 ++ [(b8 (wu8 u_6))]))))
def dn (n : Int) : Option (List UInt8) :=
 (loopN (cR) FU ([], (wu64 (max n 0))))
def ik (s_ : ByteArray) : Option (List UInt8) :=
 (Option.bind (dn (s_.size : Int)) fun z1 => (chk (decide (z1.length + s_.size ≤ lim)) (some (z1 ++ s_.data.toList))))
def kU (f3 : Int → Option Int) (i4 : Nat) (ei4 : UInt8) : Int → Option Int := fun h_1 =>
 (f3 (wu64 ((ixor .u64 h_1 (wu64 (ei4.toNat : Int))) * 1099511628211)))
def fA (b : List UInt8) : Option Int :=
 (forI (kU) (fun h_1 =>
 (some (ixor .u64 (wu64 ((ixor .u64 h_1 (ishr .u64 h_1 33)) * 18397679294719823053)) (ishr .u64 (wu64 ((ixor .u64 h_1 (ishr .u64 h_1 33)) * 18397679294719823053)) 33)))) 0 b 14695981039346656037)
def ph (f6 : List UInt8 → Option Int) (i7 : Nat) (ei7 : (List UInt8)) : List UInt8 → Option Int := fun all_1 =>
 (chk (decide (all_1.length + ei7.length ≤ lim)) (f6 (all_1 ++ ei7)))
def dT (parts : List (List UInt8)) : Option Int :=
 (forI (ph) (fun all_1 =>
 (Option.bind (fA all_1) fun z21 => (some z21))) 0 parts [])
def jR (z52 : Int) (f60 : List UInt8 → Option (List UInt8)) (i61 : Nat) : List UInt8 → Option (List UInt8) := fun x56 =>
 (chk (decide (0 ≤ (w64 (56 - (w64 (8 * (i61 : Int))))))) (f60 (List.set x56 i61 (b8 (wu8 (ishr .u64 z52 (w64 (56 - (w64 (8 * (i61 : Int)))))))))))
def ij (secret : ByteArray) (b : List UInt8) : Option (List UInt8) :=
 (Option.bind (ik secret) fun z1 => (Option.bind (dT [z1, b]) fun z18 => (Option.bind (dn (w64 (ishr .u64 z18 32))) fun z20 => (Option.bind (dn (w64 (iand .u64 z18 4294967295))) fun z30 => (Option.bind (dT [z1, z20, z30, z1]) fun z52 => (forU (jR z52) (fun x56 =>
 (some x56)) 8 0 (List.replicate 8 (b8 0))))))))
def eL (secret : ByteArray) (group : Int) (b : List UInt8) : Option ((List Span) × Int) :=
 (Option.bind (lk secret group) fun z1 => (bif (!z1) then
 (some ([], 1))
 else
 (bif ((b.length : Int) == 0) then
 (some ([], 0))
 else
 (chk (imp (!(decide ((b.length : Int) < 9))) (decide (0 < b.length))) (bif ((decide ((b.length : Int) < 9)) || ((((gt b 0).toNat : Nat) : Int) != 1)) then
 (some ([], 130))
 else
 (chk (inle (w64 ((b.length : Int) - 8)) b.length) (Option.bind (cT (List.take ((w64 ((b.length : Int) - 8)).toNat) b) 1) fun z12 => (bif (z12.2.2 != 0) then
 (some ([], 130))
 else
 (chk (inle z12.2.1 ((List.take ((w64 ((b.length : Int) - 8)).toNat) b).length)) (Option.bind (dQ (List.drop z12.2.1.toNat (List.take ((w64 ((b.length : Int) - 8)).toNat) b))) fun z16 => (bif (z16.2 != 0) then
 (some ([], 130))
 else
 (bif (z12.1 != group) then
 (some ([], 131))
 else
 (Option.bind (ij secret (List.take ((w64 ((b.length : Int) - 8)).toNat) b)) fun z30 => (bif ((⟨(List.drop ((w64 ((b.length : Int) - 8)).toNat) b).toArray⟩ : ByteArray) != (⟨z30.toArray⟩ : ByteArray)) then
 (some ([], 132))
 else
 (some (z16.1, 0))))))))))))))))
def e8 (s_ : List Int) : Option (List Int) :=
 (nilc s_.isEmpty (
 (some []))
 ((chk (decide (0 + s_.length ≤ lim)) (some (([] : List Int) ++ s_)))))
def dG (q : ay) : Option (List Int) :=
 (Option.bind (e8 q.applied) fun z2 => (some z2))
def dD (v_ : List Int) (d : Dot) : Option Bool :=
 (chk (imp (((decide (1 ≤ d.s)) && (decide (d.s ≤ (v_.length : Int)))) && (decide (1 ≤ d.n))) (inb (w64 (d.s - 1)) v_.length)) (some ((((decide (1 ≤ d.s)) && (decide (d.s ≤ (v_.length : Int)))) && (decide (1 ≤ d.n))) && (decide (d.n ≤ (gt v_ ((w64 (d.s - 1)).toNat)))))))
def dC (v_ : List Int) (f1 : Unit → Option Bool) (i2 : Nat) (ei2 : Span) : Unit → Option Bool := fun _ =>
 (Option.bind (dD v_ (⟨ei2.s, ei2.t⟩ : Dot)) fun z9 => (bif (!z9) then
 (some false)
 else
 (f1 ())))
def ec (v_ : List Int) (l : List Span) : Option Bool :=
 (forI (dC v_) (fun _ =>
 (some true)) 0 l ())
def gH (s_ : au) (past_7 : List Span)  : Option ((List Span) × Int) :=
 (bif (decide (s_.c_wait ≤ (w64 (0 + 0)))) then
 (some ([], 204))
 else
 (some (past_7, 0)))
def du (s_ : au) (past_7 : List Span) (e_12 : Int) : Option ((List Span) × Int) :=
 (bif (e_12 != 0) then
 (some ([], e_12))
 else
 (Option.bind (dG s_.q) fun z30 => (Option.bind (ec z30 past_7) fun z40 => (bif (!z40) then
 (some ([], 200))
 else
 (gH s_ past_7 )))))
def cQ (s_ : au) (token : List UInt8) (key : ByteArray) : Option ((List Span) × Int) :=
 (bif ((decide ((key.size : Int) < 1)) || (decide (32 < (key.size : Int)))) then
 (some ([], 1))
 else
 (Option.bind (eL s_.c_secret s_.c_group token) fun z16 => (du s_ z16.1 z16.2)))
def eA (s_ : au) (op : Int) (token : List UInt8) (key : ByteArray) : Option ((List bu) × Int) :=
 (Option.bind (cQ s_ token key) fun z4 => (bif (z4.2 != 0) then
 (some ([], z4.2))
 else
 none))
def dv (s_ : au) (token : List UInt8) (key : ByteArray) (x6 : ByteArray) : Option ((List bu) × Int) :=
 (bif (decide (256 < (x6.size : Int))) then
 (some ([], 1))
 else
 (Option.bind (cQ s_ token key) fun z10 => (bif (z10.2 != 0) then
 (some ([], z10.2))
 else
 none)))
def eC (s_ : au) (op : Int) (token : List UInt8) (key : ByteArray) (val : ByteArray) (gone : Bool) : Option ((List bu) × Int) :=
 (bif gone then
 (dv s_ token key ByteArray.empty)
 else
 (dv s_ token key val))
def dS (s_ : au) : Option (List aH) :=
 (some [])
def gc (q : ay) : Option (Rec × Bool) :=
 (bif (Option.isNone q.under) then
 (some ((⟨ByteArray.empty, []⟩ : Rec), false))
 else
 none)
def fy (s_ : au) : Option Bool :=
 (Option.bind (gc s_.q) fun z2 => (some ((((!z2.2) && ((w64 ((w64 (0 + 0)) + 0)) == 0)) && true) && true)))
def bL (f64 : Unit → Option Bool)  : Option Bool :=
 (f64 ())
def bj (token : List UInt8) (key : ByteArray) (z41 : au) (z44 : (List UInt8) × Int) (f64 : Unit → Option Bool) (i65 : Nat) (want_96 : Int) : Option Bool :=
 (bif (want_96 == 0) then
 (bL f64 )
 else
 (Option.bind (eA z41 1 (gt [token, z44.1] i65) key) fun z106 => (Option.bind (eC z41 2 (gt [token, z44.1] i65) key (⟨#[118]⟩ : ByteArray) false) fun z117 => (bif (!((((z106.2 != want_96) || (z117.2 != want_96)) || ((z106.1.length : Int) != 0)) || ((z117.1.length : Int) != 0))) then
 (Option.bind (dS z41) fun z139 => (bif (!((z139.length : Int) != 0)) then
 (Option.bind (fy z41) fun z151 => (bif (!z151) then
 (some false)
 else
 (bL f64 )))
 else
 (some false)))
 else
 (some false)))))
def aT (token : List UInt8) (key : ByteArray) (z41 : au) (z44 : (List UInt8) × Int) (f64 : Unit → Option Bool) (i65 : Nat) (want_88 : Int) : Option Bool :=
 (bif ((key == ByteArray.empty) || (decide (32 < (key.size : Int)))) then
 (bj token key z41 z44 f64 i65 1)
 else
 (bj token key z41 z44 f64 i65 want_88))
def bg (token : List UInt8) (key : ByteArray) (z4 : aC) (z41 : au) (z44 : (List UInt8) × Int) (f64 : Unit → Option Bool) (i65 : Nat) : Unit → Option Bool := fun _ =>
 (Option.bind (dN z4.secret z4.group (gt [token, z44.1] i65)) fun z77 => (bif (z77.2 == 0) then
 (Option.bind (cL [4, 4] z77.1) fun z93 => (bif (!z93) then
 (aT token key z41 z44 f64 i65 200)
 else
 (aT token key z41 z44 f64 i65 z77.2)))
 else
 (aT token key z41 z44 f64 i65 z77.2)))
def dz (token : List UInt8) (past : List Span) (key : ByteArray) : Option Bool :=
 (Option.bind (eH) fun z1 => (bif (!z1) then
 (some false)
 else
 (Option.bind (eG 2) fun z4 => (Option.bind (l6 65536) fun z17 => (Option.bind (k0 (⟨z4.sites, z4.links, z4.nodes, z4.members, z4.n, z4.r, z4.w_, z4.group, z4.secret, z4.room, z4.seg, z4.cap, z4.pend, z4.wait, z4.timeout, z4.hintAfter, 4⟩ : aC) 1 0 z17) fun z26 => (bif ((Option.isNone z26.2.1) || (z26.2.2 != 0)) then
 (some false)
 else
 (Option.bind z26.2.1 fun z41 => (Option.bind (dI z4.secret z4.group past) fun z44 => (forU (bg token key z4 z41 z44) (fun _ =>
 (some ((z44.2 == 0) || (z44.2 == 1)))) 2 0 ())))))))))
end Fw
end Go.Proofs.YtogmioecalmalaaGreat
