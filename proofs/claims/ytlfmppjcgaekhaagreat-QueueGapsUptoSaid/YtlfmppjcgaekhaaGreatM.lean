/- What the functions compute, as Lean functions (printed by a program). No condition. -/
import Derived.Test.YtlfmppjcgaekhaaGreatE
import Derived.Test.YtlfmppjcgaekhaaGreatK14
import Derived.Test.YtlfmppjcgaekhaaGreatK15
import Derived.Test.YtlfmppjcgaekhaaGreatK16
import Derived.Test.YtlfmppjcgaekhaaGreatK17
import Derived.Test.YtlfmppjcgaekhaaGreatK18
import Derived.Test.YtlfmppjcgaekhaaGreatK19
import Derived.Test.YtlfmppjcgaekhaaGreatK20
import Derived.Test.YtlfmppjcgaekhaaGreatK23
import Derived.Test.YtlfmppjcgaekhaaGreatK24
import Derived.Test.YtlfmppjcgaekhaaGreatK25
import Derived.Test.YtlfmppjcgaekhaaGreatK26
import Derived.Test.YtlfmppjcgaekhaaGreatK37
import Derived.Test.YtlfmppjcgaekhaaGreatK39
import Derived.Test.YtlfmppjcgaekhaaGreatK40
import Derived.Test.YtlfmppjcgaekhaaGreatK41
import Derived.Test.YtlfmppjcgaekhaaGreatK42
namespace Go.Proofs.YtlfmppjcgaekhaaGreat
namespace Fw
set_option linter.unusedVariables false
set_option linter.unusedSimpArgs false
set_option linter.unusedSectionVars false
open Go.RowKit
structure a7 where
  room : Int
  safe_ : (List (ByteArray × (List UInt8)))
  seen : (List (ByteArray × (List UInt8)))
  loose : (List aw)
  deriving Inhabited, DecidableEq
abbrev ao := (List (List UInt8) × Int)
abbrev ag := (List ByteArray)
structure af where
  place_name : ByteArray
  place_gen : Int
  size : Int
  last : Int
  tail : Int
  count : Int
  bytes : Int
  deriving Inhabited, DecidableEq
structure az where
  entry : aq
  want : (List (Int × Bool))
  deriving Inhabited, DecidableEq
abbrev aK : EM az aB Int Bool := ⟨fun x g => ⟨x.entry, g⟩, fun x => x.want, fun x l => { x with want := l }, fun _ _ _ => rfl, fun _ _ => rfl⟩
structure a6 where
  c_self : Int
  c_sites : Int
  c_links : (List Int)
  c_cap : Int
  c_base : Int
  c_members : (List Int)
  log : af
  applied : (List Int)
  under : (Option Rec)
  list : (List az)
  next : Int
  gaps : (List (Int × Bool))
  members : (List Int)
  deriving Inhabited, DecidableEq
structure al where
  b : (List UInt8)
  at_ : Int
  bad : Bool
  deriving Inhabited, DecidableEq
structure a8 where
  b : (List UInt8)
  at_ : Int
  deriving Inhabited, DecidableEq
structure ae where
  b : (List UInt8)
  deriving Inhabited, DecidableEq
def kw (room : Int) : Option a7 :=
 (some (⟨(min (max room 0) 1073741824), ([] : List (ByteArray × (List UInt8))), ([] : List (ByteArray × (List UInt8))), []⟩ : a7))
def la  : Option aa :=
 (some (⟨1, 2, [2], 1, 0, [1]⟩ : aa))
def lT (members : List Int) (f1 : Unit → Option Bool) (i2 : Nat) (ei2 : Int) : Unit → Option Bool := fun _ =>
 (chk (imp ((!((decide (ei2 < 1)) || (decide (8 < ei2)))) && (decide (0 < (i2 : Int)))) (inb (w64 ((i2 : Int) - 1)) members.length)) (bif (((decide (ei2 < 1)) || (decide (8 < ei2))) || ((decide (0 < (i2 : Int))) && (decide (ei2 ≤ (gt members ((w64 ((i2 : Int) - 1)).toNat)))))) then
 (some false)
 else
 (f1 ())))
def jZ (members : List Int) : Option Bool :=
 (forI (lT members) (fun _ =>
 (some (decide (0 < (members.length : Int))))) 0 members ())
def j6 (c_ : aa) (f2 : Unit → Option Bool) (i3 : Nat) (ei3 : Int) : Unit → Option Bool := fun _ =>
 (chk (imp ((!(((decide (ei3 < 1)) || (decide (c_.sites < ei3))) || (ei3 == c_.self))) && (decide (0 < (i3 : Int)))) (inb (w64 ((i3 : Int) - 1)) c_.links.length)) (bif ((((decide (ei3 < 1)) || (decide (c_.sites < ei3))) || (ei3 == c_.self)) || ((decide (0 < (i3 : Int))) && (decide (ei3 ≤ (gt c_.links ((w64 ((i3 : Int) - 1)).toNat)))))) then
 (some false)
 else
 (f2 ())))
def dB (c_ : aa) : Option Bool :=
 (forI (j6 c_) (fun _ =>
 (Option.bind (dM ((((((((decide (1 ≤ c_.sites)) && (decide (c_.sites ≤ 16))) && (decide (1 ≤ c_.self))) && (decide (c_.self ≤ c_.sites))) && (decide (1 ≤ c_.cap))) && (decide (c_.cap ≤ 65536))) && (decide (0 ≤ c_.base))) && (decide (c_.base ≤ 4611686018427387904))) (jZ c_.members)) fun z57 => (some (((((((((decide (1 ≤ c_.sites)) && (decide (c_.sites ≤ 16))) && (decide (1 ≤ c_.self))) && (decide (c_.self ≤ c_.sites))) && (decide (1 ≤ c_.cap))) && (decide (c_.cap ≤ 65536))) && (decide (0 ≤ c_.base))) && (decide (c_.base ≤ 4611686018427387904))) && z57)))) 0 c_.links ())
def cF (s_ : ByteArray) (c_ : Int) : Option Int :=
 (some (ixb s_ c_))
def bh (s_ : ByteArray) : Option Int :=
 (bif ((⟨#[46]⟩ : ByteArray) == s_) then
 (some 0)
 else
 (Option.bind (cF s_ 46) fun z2 => (some z2)))
def ig (s_ : ByteArray) : Option Int :=
 (Option.bind (bh s_) fun z1 => (some z1))
def fA (s_ : ByteArray) : Option Bool :=
 (Option.bind (ig s_) fun z1 => (some (decide (0 ≤ z1))))
def eJ (p__1 : ByteArray) (p__2 : Int) : Option ByteArray :=
 (some (p__1 ++ (⟨#[46, 109]⟩ : ByteArray)))
def ci (s_ : List UInt8) : Option (List UInt8) :=
 (nilc s_.isEmpty (
 (some []))
 ((chk (decide (0 + s_.length ≤ lim)) (some (([] : List UInt8) ++ s_)))))
def du (d : a7) (name : ByteArray) : Option ((List UInt8) × Bool) :=
 (Option.bind (ci ((mget name d.seen).getD [])) fun z9 => (some (z9, ((mget name d.seen).isSome))))
def k3 (e_6 : Int) : Option (Int × Int × Int) :=
 (some (0, 0, e_6))
def jn (b : List UInt8) (at_ : Int) (n_9 : Int) (f10 : Int → Option (Int × Int × Int)) (i11 : Nat) (x_17 : Bool) : Option (Int × Int × Int) :=
 (bif x_17 then
 (k3 2)
 else
 (bif (decide ((((gt (List.drop at_.toNat b) i11).toNat : Nat) : Int) < 128)) then
 (chk (decide (0 ≤ (w64 (7 * (i11 : Int))))) (some ((w64 (ior .u64 n_9 (ishl .u64 (wu64 (((gt (List.drop at_.toNat b) i11).toNat : Nat) : Int)) (w64 (7 * (i11 : Int)))))), (w64 ((w64 (at_ + (i11 : Int))) + 1)), 0)))
 else
 (chk (decide (0 ≤ (w64 (7 * (i11 : Int))))) (f10 (ior .u64 n_9 (ishl .u64 (wu64 (iand .u8 (((gt (List.drop at_.toNat b) i11).toNat : Nat) : Int) 127)) (w64 (7 * (i11 : Int)))))))))
def jl (b : List UInt8) (at_ : Int) (f10 : Int → Option (Int × Int × Int)) (i11 : Nat) (ei11 : UInt8) : Int → Option (Int × Int × Int) := fun n_9 =>
 (bif (((i11 : Int) == 8) && (decide (127 < (ei11.toNat : Int)))) then
 (jn b at_ n_9 f10 i11 (((i11 : Int) == 8) && (decide (127 < (ei11.toNat : Int)))))
 else
 (jn b at_ n_9 f10 i11 ((decide (0 < (i11 : Int))) && ((ei11.toNat : Int) == 0))))
def fO (b : List UInt8) (at_ : Int) : Option (Int × Int × Int) :=
 (bif ((decide (at_ < 0)) || (decide ((b.length : Int) < at_))) then
 (some (0, 0, 1))
 else
 (chk (inle at_ b.length) (forI (jl b at_) (fun n_9 =>
 (k3 4)) 0 (List.drop at_.toNat b) 0)))
def io (f21 : Int → Option Int) (i22 : Nat) : Int → Option Int := fun r_20 =>
 (f21 (ixor .u32 (ishr .u32 r_20 1) (iand .u32 3988292384 (wu32 (0 - (iand .u32 r_20 1))))))
def im (f13 : Int → Option Int) (i14 : Nat) (ei14 : UInt8) : Int → Option Int := fun r_12 =>
 (forU (io) (fun r_20 =>
 (f13 r_20)) 8 0 (ixor .u32 r_12 (wu32 (ei14.toNat : Int))))
def jK (f2 : Int → Option Int) (i3 : Nat) (ei3 : (List UInt8)) : Int → Option Int := fun r_1 =>
 (forI (im) (fun r_12 =>
 (f2 r_12)) 0 ei3 r_1)
def jv (parts : List (List UInt8)) : Option Int :=
 (forI (jK) (fun r_1 =>
 (some (icom .u32 r_1))) 0 parts 4294967295)
def jO (b : List UInt8) (z1 : Int × Int × Int) (z15 : Int) (f17 : Unit → Option ((List UInt8) × Int × Int)) (i18 : Nat) : Unit → Option ((List UInt8) × Int × Int) := fun _ =>
 (chk (inb (w64 (z1.2.1 + (i18 : Int))) b.length) (chk (decide (0 ≤ (w64 (8 * (i18 : Int))))) (bif ((((gt b ((w64 (z1.2.1 + (i18 : Int))).toNat)).toNat : Nat) : Int) != (wu8 (ishr .u32 z15 (w64 (8 * (i18 : Int)))))) then
 (some ([], 0, 20))
 else
 (f17 ()))))
def jW (b : List UInt8) (at_ : Int) : Option ((List UInt8) × Int × Int) :=
 (Option.bind (fO b at_) fun z1 => (bif (z1.2.2 != 0) then
 (chk (i64b z1.2.2) (some ([], 0, z1.2.2)))
 else
 (bif (decide (1048576 < z1.1)) then
 (some ([], 0, 3))
 else
 (bif (decide ((w64 ((b.length : Int) - z1.2.1)) < (w64 (z1.1 + 4)))) then
 (some ([], 0, 4))
 else
 (chk (inle (w64 ((w64 (z1.2.1 + 4)) + z1.1)) b.length) (chk (decide (0 ≤ (w64 (z1.2.1 + 4)))) (chk (decide ((w64 (z1.2.1 + 4)).toNat ≤ (w64 ((w64 (z1.2.1 + 4)) + z1.1)).toNat)) (chk (inle z1.2.1 b.length) (chk (decide (0 ≤ at_)) (chk (decide (at_.toNat ≤ z1.2.1.toNat)) (Option.bind (jv [(List.drop at_.toNat (List.take z1.2.1.toNat b)), (List.drop ((w64 (z1.2.1 + 4)).toNat) (List.take ((w64 ((w64 (z1.2.1 + 4)) + z1.1)).toNat) b))]) fun z15 => (forU (jO b z1 z15) (fun _ =>
 (chk (decide (0 + (List.drop ((w64 (z1.2.1 + 4)).toNat) (List.take ((w64 ((w64 (z1.2.1 + 4)) + z1.1)).toNat) b)).length ≤ lim)) (some ((([] : List UInt8) ++ (List.drop ((w64 (z1.2.1 + 4)).toNat) (List.take ((w64 ((w64 (z1.2.1 + 4)) + z1.1)).toNat) b))), (w64 ((w64 (z1.2.1 + 4)) + z1.1)), 0)))) 4 0 ()))))))))))))
def cL (Y : ao → List UInt8 → Int → Option ao) (b0v : List UInt8) (f10 : Int × Int × ao → Option (ao × Int)) : Int × Int × ao → Option (ao × Int) := fun (at_3, x5, o7) =>
 (bif (decide (at_3 < (b0v.length : Int))) then
 (Option.bind (jW b0v at_3) fun z15 => (bif (!(z15.2.2 != 0)) then
 (Option.bind (Y o7 z15.1 z15.2.1) fun z36 => (f10 (z15.2.1, z15.2.2, z36)))
 else
 (some (o7, z15.2.2))))
 else
 (some (o7, x5)))
def j8 (Y : ao → List UInt8 → Int → Option ao) (sY : ao) (b0v : List UInt8) (b1v : Int) : Option (ao × Int) :=
 (loopN (cL Y b0v) FU (0, b1v, sY))

def eA (s : ao) (b : List UInt8) (n : Int) : Option ao := chk (decide (s.1.length + 1 ≤ lim)) (some (s.1 ++ [b], n))
def jx (b : List UInt8) : Option (List (List UInt8) × Int × Int) := Option.bind (j8 eA ([], 0) b 0) fun z => some (z.1.1, z.1.2, z.2)
def fa (f34 : Int → Option (Int × Int × Int)) (i35 : Nat) (ei35 : (List UInt8)) : Int → Option (Int × Int × Int) := fun gen_33 =>
 (Option.bind (fO ei35 0) fun z44 => (bif ((((z44.2.2 != 0) || (z44.2.1 != (ei35.length : Int))) || (decide (z44.1 < 1))) || (decide (999999 < z44.1))) then
 (some (0, 0, 2))
 else
 (f34 z44.1)))
def m_seglog_place_holds (p__1 : ByteArray) (p__2 : Int) (dk0 : a7) : Option (Int × Int × Int) :=
 (Option.bind (eJ p__1 p__2) fun z3 => (chk (decide (z3.size ≤ lim)) (Option.bind (du dk0 z3) fun z6 => (Option.bind (jx z6.1) fun z21 => (forI (fa) (fun gen_33 =>
 (chk (i64b gen_33) (some (gen_33, z21.2.1, 0)))) 0 z21.1 0)))))
def ga (d : a7) : Option Int :=
 (some (d.loose.length : Int))
def lW (f1 : Unit → Option Bool) (i2 : Nat) (ei2 : ByteArray) : Unit → Option Bool := fun _ =>
 (bif ((decide ((ei2.size : Int) < 1)) || (decide (16 < (ei2.size : Int)))) then
 (some false)
 else
 (f1 ()))
def iC (names : List ByteArray) : Option Bool :=
 (forI (lW) (fun _ =>
 (some true)) 0 names ())
def ec (d : a7) (name : ByteArray) : Option Int :=
 (Option.bind (iC [name]) fun z3 => (bif (!z3) then
 (some 70)
 else
 (bif (!((mget name d.seen).isSome)) then
 (some 71)
 else
 (some 0))))
def eZ (s_ : List UInt8) : Option (List UInt8) :=
 (some s_)
def jX (f_ : List (ByteArray × (List UInt8))) (b0 : ByteArray) (b1 : (List UInt8)) : Option (List (ByteArray × (List UInt8))) :=
 (Option.bind (eZ ((mget b0 f_).getD [])) fun z9 => (chk (decide (((mget b0 f_).getD []).length + b1.length ≤ lim)) (some (mput b0 (((mget b0 f_).getD []) ++ b1) f_))))
def fV (f_ : List (ByteArray × (List UInt8))) (b0 : ByteArray) (b1 : Int) : Option (List (ByteArray × (List UInt8))) :=
 (chk (inle b1 (((mget b0 f_).getD []).length)) (some (mput b0 (List.take b1.toNat ((mget b0 f_).getD [])) f_)))
def jG (f_ : List (ByteArray × (List UInt8))) (b0 : ByteArray) : Option (List (ByteArray × (List UInt8))) :=
 (some (mdel b0 f_))
def cy (x : ah) (f_ : List (ByteArray × (List UInt8))) : Option (List (ByteArray × (List UInt8))) :=
  match x with
  | .disk_add_1 a0 a1 => jX f_ a0 a1
  | .disk_Disk_Cut_1 a0 a1 => fV f_ a0 a1
  | .disk_Disk_Remove_1 a0 => jG f_ a0
def dt (d : a7) (c_ : aw) : Option (a7 × Int) :=
 (Option.bind (cy c_.do_ d.seen) fun z4 => (chk (decide (d.loose.length + 1 ≤ lim)) (some ((⟨d.room, d.safe_, z4, (d.loose ++ [c_])⟩ : a7), 0))))
def il (d : a7) (name : ByteArray) (n : Int) : Option (a7 × Int) :=
 (Option.bind (ec d name) fun z3 => (bif (z3 != 0) then
 (chk (i64b z3) (some (d, z3)))
 else
 (bif ((decide (n < 0)) || (decide (((((mget name d.seen).getD []).length : Nat) : Int) < n))) then
 (some (d, 1))
 else
 (Option.bind (dt d (⟨(ah.disk_Disk_Cut_1 name n), ByteArray.empty, []⟩ : aw)) fun z36 => (some (z36.1, z36.2))))))
def cD (p__1 : ByteArray) (p__2 : Int) (f_ : ByteArray) (n : Int) (dk0 : a7) : Option a7 :=
 (Option.bind (du dk0 f_) fun z2 => (bif (decide (n < (z2.1.length : Int))) then
 (Option.bind (il dk0 f_ n) fun z13 => (some z13.1))
 else
 (some dk0)))
def gc (d : a7) : Option (List ByteArray) :=
 (chk (decide (d.seen.length ≤ lim)) (some (fG d.seen)))
def cC (s_ : ByteArray) (prefix_ : ByteArray) : Option Bool :=
 (chk (imp (decide ((prefix_.size : Int) ≤ (s_.size : Int))) (decide (prefix_.size ≤ s_.size))) (some ((decide ((prefix_.size : Int) ≤ (s_.size : Int))) && ((s_.extract 0 prefix_.size) == prefix_))))
def cA (s_ : ByteArray) (prefix_ : ByteArray) : Option (ByteArray × Bool) :=
 (Option.bind (cC s_ prefix_) fun z1 => (bif (!z1) then
 (some (s_, false))
 else
 (chk (decide (prefix_.size ≤ s_.size)) (some ((s_.extract prefix_.size s_.size), true)))))
def eI (s_ : ByteArray) (prefix_ : ByteArray) : Option (ByteArray × Bool) :=
 (Option.bind (cA s_ prefix_) fun z1 => (some (z1.1, z1.2)))
def dI (s_ : ByteArray) : Option (ByteArray × ByteArray × Bool) :=
 (Option.bind (bh s_) fun z1 => (bif (decide (0 ≤ z1)) then
 (chk (inle z1 s_.size) (chk (inle (w64 (z1 + 1)) s_.size) (some ((s_.extract 0 z1.toNat), (s_.extract ((w64 (z1 + 1)).toNat) s_.size), true))))
 else
 (some (s_, ByteArray.empty, false))))
def jr (s_ : ByteArray) : Option (ByteArray × ByteArray × Bool) :=
 (Option.bind (dI s_) fun z1 => (some (z1.1, z1.2.1, z1.2.2)))
def ez (f22 : Int → Option (Int × Int)) (i23 : Nat) (ei23 : UInt8) : Int → Option (Int × Int) := fun n_20 =>
 (bif ((decide ((ei23.toNat : Int) < 48)) || (decide (57 < (ei23.toNat : Int)))) then
 (some (0, 2))
 else
 (f22 (wu64 ((wu64 (10 * n_20)) + (wu64 (wu8 ((ei23.toNat : Int) - 48)))))))
def gD (s_ : ByteArray) : Option (Int × Int) :=
 (chk (imp ((!(s_ == ByteArray.empty)) && (decide (1 < (s_.size : Int)))) (decide (0 < s_.size))) (bif (((s_ == ByteArray.empty) || ((decide (1 < (s_.size : Int))) && ((((gt s_.data.toList 0).toNat : Nat) : Int) == 48))) || (decide (19 < (s_.size : Int)))) then
 (some (0, 2))
 else
 (forI (ez) (fun n_20 =>
 (bif (decide (9223372036854775808 ≤ n_20)) then
 (some (0, 2))
 else
 (some ((w64 n_20), 0)))) 0 (s_.data.toList) 0)))
def bV (Y : ag → ByteArray → Int → Int → Option ag) (b0v1 : ByteArray) (f16 : ag → Option ag) (i17 : Nat) (ei17 : ByteArray) : ag → Option ag := fun o13 =>
 (chk (decide ((b0v1 ++ (⟨#[46]⟩ : ByteArray)).size ≤ lim)) (Option.bind (eI ei17 (b0v1 ++ (⟨#[46]⟩ : ByteArray))) fun z24 => (chk (decide (z24.1.size ≤ lim)) (Option.bind (jr z24.1) fun z27 => (chk (decide (z27.1.size ≤ lim)) (Option.bind (gD z27.1) fun z30 => (chk (decide (z27.2.1.size ≤ lim)) (Option.bind (gD z27.2.1) fun z33 => (bif ((((((z24.2 && z27.2.2) && (z30.2 == 0)) && (z33.2 == 0)) && (decide (z30.1 ≤ 999999))) && (decide (1 ≤ z33.1))) && (decide (z33.1 ≤ 999999))) then
 (chk (i64b z30.1) (chk (i64b z33.1) (Option.bind (Y o13 ei17 z30.1 z33.1) fun z54 => (f16 z54))))
 else
 (f16 o13))))))))))
def fm (Y : ag → ByteArray → Int → Int → Option ag) (sY : ag) (b0v0 : a7) (b0v1 : ByteArray) (b0v2 : Int) : Option ag :=
 (Option.bind (gc b0v0) fun z1 => (forI (bV Y b0v1) (fun o13 =>
 (some o13)) 0 z1 sY))
def dE (d : a7) (name : ByteArray) : Option (a7 × Int) :=
 (Option.bind (ec d name) fun z2 => (bif (z2 != 0) then
 (chk (i64b z2) (some (d, z2)))
 else
 (Option.bind (dt d (⟨(ah.disk_Disk_Remove_1 name), ByteArray.empty, []⟩ : aw)) fun z11 => (some (z11.1, z11.2)))))

def cQ (pred : Int → Int → Option Bool) (s : ag) (f : ByteArray) (g n : Int) : Option ag := Option.bind (pred g n) fun q => bif q then chk (decide (s.length + 1 ≤ lim)) (some (s ++ [f])) else some s
def fl (k : a7 → Option a7) (i : Nat) (f : ByteArray) (d : a7) : Option a7 := Option.bind (dE d f) fun z => k z.1
def cd (d : a7) (name : ByteArray) (gen : Int) (pred : Int → Int → Option Bool) : Option a7 := Option.bind (fm (cQ pred) [] d name gen) fun l => forI fl some 0 l d
def fH (g_ : Int) (a1 : Int) (b0v : Int) : Option Bool :=
 (some (g_ != b0v))
def fE (at_24 : Int) (x26 : List UInt8) : Option ByteArray :=
 (chk (inle at_24 20) (some (⟨(List.drop at_24.toNat x26).toArray⟩ : ByteArray)))
def cn (n : Int) (f14 : Int × Int × (List UInt8) → Option ByteArray) : Int × Int × (List UInt8) → Option ByteArray := fun (at_6, u_8, x10) =>
 (bif ((at_6 == 20) || (decide (0 < u_8))) then
 (chk (inb (w64 (at_6 - 1)) 20) (f14 ((w64 (at_6 - 1)), (wu64 (u_8.tdiv 10)), (List.set x10 ((w64 (at_6 - 1)).toNat) (b8 (wu8 (wu64 (48 + (u_8.tmod 10)))))))))
 else
 (bif (decide (n < 0)) then
 (chk (inb (w64 (at_6 - 1)) 20) (fE (w64 (at_6 - 1)) (List.set x10 ((w64 (at_6 - 1)).toNat) (b8 45))))
 else
 (fE at_6 x10)))
def ib (n : Int) (u_3 : Int) : Option ByteArray :=
 (loopN (cn n) FU (20, u_3, (List.replicate 20 (b8 0))))
def iQ (n : Int) : Option ByteArray :=
 (bif (decide (n < 0)) then
 (ib n (wu64 (0 - (wu64 n))))
 else
 (ib n (wu64 n)))
def cH (p__1 : ByteArray) (p__2 : Int) (gen : Int) (part : Int) : Option ByteArray :=
 (Option.bind (iQ gen) fun z2 => (chk (decide ((p__1 ++ (⟨#[46]⟩ : ByteArray)).size ≤ lim)) (chk (decide (z2.size ≤ lim)) (chk (decide (((p__1 ++ (⟨#[46]⟩ : ByteArray)) ++ z2).size ≤ lim)) (Option.bind (iQ part) fun z7 => (chk (decide ((((p__1 ++ (⟨#[46]⟩ : ByteArray)) ++ z2) ++ (⟨#[46]⟩ : ByteArray)).size ≤ lim)) (chk (decide (z7.size ≤ lim)) (some ((((p__1 ++ (⟨#[46]⟩ : ByteArray)) ++ z2) ++ (⟨#[46]⟩ : ByteArray)) ++ z7)))))))))
def d5 (out_3 : List (List UInt8)) (o8 : af) (o11 : a7) : Option (af × a7 × (List (List UInt8))) :=
 (some ((⟨o8.place_name, o8.place_gen, o8.size, o8.last, o8.tail, (out_3.length : Int), o8.bytes⟩ : af), o11, out_3))
def bv (f28 : (List (List UInt8)) × Bool × af × a7 → Option (af × a7 × (List (List UInt8)))) : (List (List UInt8)) × Bool × af × a7 → Option (af × a7 × (List (List UInt8))) := fun (out_16, whole_21, o22, o25) =>
 (bif (whole_21 && (decide (o22.last < 999999))) then
 (Option.bind (cH o22.place_name o22.place_gen o22.place_gen (w64 (o22.last + 1))) fun z40 => (chk (decide (z40.size ≤ lim)) (Option.bind (du o25 z40) fun z43 => (bif (!z43.2) then
 (d5 out_16 o22 o25)
 else
 (Option.bind (jx z43.1) fun z60 => (Option.bind (cD o22.place_name o22.place_gen z40 z60.2.1 o25) fun z72 => (chk (decide (out_16.length + z60.1.length ≤ lim)) (f28 ((out_16 ++ z60.1), (z60.2.1 == (z43.1.length : Int)), (⟨o22.place_name, o22.place_gen, o22.size, (w64 (o22.last + 1)), z60.2.1, o22.count, (w64 (o22.bytes + z60.2.1))⟩ : af), z72)))))))))
 else
 (d5 out_16 o22 o25))
def gn (l : af) (dk0 : a7) : Option (af × a7 × (List (List UInt8))) :=
 (loopN (bv) FU ([], true, l, dk0))
def ik (a0 : Int) (n : Int) (b0v : af) : Option Bool :=
 (some (decide (b0v.last < n)))
def eU (d : a7) : Option a7 :=
 (some (⟨d.room, d.seen, d.seen, []⟩ : a7))
def eV (z48 : af × a7 × (List (List UInt8))) (o74 : a7) : Option (a7 × (Option af) × (List (List UInt8)) × Int) :=
 (some (o74, (some z48.1), z48.2.2, 0))
def fN (d : a7) (name : ByteArray) (size : Int) : Option (a7 × (Option af) × (List (List UInt8)) × Int) :=
 (Option.bind (dM (!((decide ((name.size : Int) < 1)) || (decide (2 < (name.size : Int))))) (fA name)) fun z6 => (bif (((decide ((name.size : Int) < 1)) || (decide (2 < (name.size : Int)))) || z6) then
 (some (d, none, [], 1))
 else
 (Option.bind (m_seglog_place_holds name 0 d) fun z10 => (bif (z10.2.2 != 0) then
 (some (d, none, [], z10.2.2))
 else
 (Option.bind (ga d) fun z21 => (Option.bind (eJ name z10.1) fun z24 => (chk (decide (z24.size ≤ lim)) (Option.bind (cD name z10.1 z24 z10.2.1 d) fun z27 => (Option.bind (cd z27 name z10.1 (fun x y => fH x y z10.1)) fun z37 => (Option.bind (gn (⟨name, z10.1, (max size 16), 0, 0, 0, 0⟩ : af) z37) fun z48 => (Option.bind (cd z48.2.1 name z10.1 (fun x y => ik x y z48.1)) fun z64 => (Option.bind (ga z64) fun z77 => (bif (z77 != z21) then
 (Option.bind (eU z64) fun z80 => (eV z48 z80))
 else
 (eV z48 z64))))))))))))))
def bR (s_ : List Int) : Option (List Int) :=
 (nilc s_.isEmpty (
 (some []))
 ((chk (decide (0 + s_.length ≤ lim)) (some (([] : List Int) ++ s_)))))
def bD (r_ : al) : Option (al × Int) :=
 (Option.bind (fO r_.b r_.at_) fun z2 => (bif ((z2.2.2 != 0) || r_.bad) then
 (some ((⟨r_.b, r_.at_, true⟩ : al), 0))
 else
 (chk (i64b z2.2.1) (chk (i64b z2.1) (some ((⟨r_.b, z2.2.1, r_.bad⟩ : al), z2.1))))))
def nM (b : List UInt8) (at_ : Int) (most : Int) : Option (ByteArray × Int × Int) :=
 (Option.bind (fO b at_) fun z1 => (bif (z1.2.2 != 0) then
 (some (ByteArray.empty, 0, z1.2.2))
 else
 (bif (decide ((max most 0) < z1.1)) then
 (some (ByteArray.empty, 0, 3))
 else
 (bif (decide ((w64 ((b.length : Int) - z1.2.1)) < z1.1)) then
 (some (ByteArray.empty, 0, 4))
 else
 (chk (inle (w64 (z1.2.1 + z1.1)) b.length) (chk (decide (0 ≤ z1.2.1)) (chk (decide (z1.2.1.toNat ≤ (w64 (z1.2.1 + z1.1)).toNat)) (some ((⟨(List.drop z1.2.1.toNat (List.take ((w64 (z1.2.1 + z1.1)).toNat) b)).toArray⟩ : ByteArray), (w64 (z1.2.1 + z1.1)), 0)))))))))
def fR (r_ : a8) (z2 : ByteArray × Int × Int)  : Option (Option (a8 × ByteArray)) :=
 (chk (i64b z2.2.1) (chk (decide (z2.1.size ≤ lim)) (some (some ((⟨r_.b, z2.2.1⟩ : a8), z2.1)))))
def dH (r_ : a8) : Option (Option (a8 × ByteArray)) :=
 (Option.bind (nM r_.b r_.at_ (r_.b.length : Int)) fun z2 => (bif (z2.2.2 != 0) then
 (some none)
 else
 (fR r_ z2 )))
def gJ (r_ : a8) (z2 : Int × Int × Int)  : Option (Option (a8 × Int)) :=
 (chk (i64b z2.2.1) (chk (i64b z2.1) (some (some ((⟨r_.b, z2.2.1⟩ : a8), z2.1)))))
def br (r_ : a8) : Option (Option (a8 × Int)) :=
 (Option.bind (fO r_.b r_.at_) fun z2 => (bif (z2.2.2 != 0) then
 (some none)
 else
 (gJ r_ z2 )))
def ek (r_ : a8) : Option (Option (a8 × Int)) :=
 (Option.bind (br r_) fun z1 => (optm z1
 (some none)
 fun o3 =>
 (some (some (o3.1, o3.2)))))
def fS (x29 : Span) (o31 : a8)  : Option (Option (a8 × Span)) :=
 (some (some (o31, x29)))
def fQ (x29 : Span) (o31 : a8) : Option (Option (a8 × Span)) :=
 (bif (decide (x29.t < x29.f)) then
 (some none)
 else
 (fS x29 o31 ))
def fj (r_ : a8) : Option (Option (a8 × Span)) :=
 (Option.bind (ek r_) fun z2 => (optm z2
 (some none)
 fun o4 =>
 (Option.bind (br o4.1) fun z15 => (optm z15
 (some none)
 fun o17 =>
 (Option.bind (br o17.1) fun z35 => (optm z35
 (some none)
 fun o37 =>
 (fQ (⟨o4.2, o17.2, (w64 (o17.2 + o37.2))⟩ : Span) o37.1)))))))
def bI (f28 : (List Span) × a8 → Option (Option (a8 × (List Span)))) (i29 : Nat) : (List Span) × a8 → Option (Option (a8 × (List Span))) := fun (out_20, o25) =>
 (Option.bind (fj o25) fun z35 => (optm z35
 (some none)
 fun o37 =>
 (chk (decide (out_20.length + 1 ≤ lim)) (f28 ((out_20 ++ [o37.2]), o37.1)))))
def eP (o3 : a8 × Int)  : Option (Option (a8 × (List Span))) :=
 (forU (bI) (fun (out_20, o25) =>
 (some (some (o25, out_20)))) o3.2.toNat 0 ([], o3.1))
def e7 (r_ : a8) : Option (Option (a8 × (List Span))) :=
 (Option.bind (br r_) fun z1 => (optm z1
 (some none)
 fun o3 =>
 (bif (decide ((w64 ((o3.1.b.length : Int) - o3.1.at_)) < o3.2)) then
 (some none)
 else
 (eP o3 ))))
def ep (o4 : a8 × Int) (o17 : a8 × Int) (o29 : a8 × (List Span)) (x44 : Bool) (x45 : ByteArray) (o47 : a8) : Option (Option (a8 × Ver)) :=
 (some (some (o47, (⟨(⟨o4.2, o17.2⟩ : Dot), o29.2, x44, x45⟩ : Ver))))
def fZ (r_ : a8) : Option (Option (a8 × Ver)) :=
 (Option.bind (ek r_) fun z2 => (optm z2
 (some none)
 fun o4 =>
 (Option.bind (br o4.1) fun z15 => (optm z15
 (some none)
 fun o17 =>
 (Option.bind (e7 o17.1) fun z27 => (optm z27
 (some none)
 fun o29 =>
 (Option.bind (br o29.1) fun z50 => (optm z50
 (some none)
 fun o52 =>
 (bif (o52.2 == 0) then
 (Option.bind (dH o52.1) fun z63 => (optm z63
 (some none)
 fun o65 =>
 (ep o4 o17 o29 false o65.2 o65.1)))
 else
 (bif (o52.2 == 1) then
 (ep o4 o17 o29 true ByteArray.empty o52.1)
 else
 (some none)))))))))))
def bQ (f28 : (List Ver) × a8 → Option (Option (a8 × (List Ver)))) (i29 : Nat) : (List Ver) × a8 → Option (Option (a8 × (List Ver))) := fun (out_20, o25) =>
 (Option.bind (fZ o25) fun z35 => (optm z35
 (some none)
 fun o37 =>
 (chk (decide (out_20.length + 1 ≤ lim)) (f28 ((out_20 ++ [o37.2]), o37.1)))))
def fv (o3 : a8 × Int)  : Option (Option (a8 × (List Ver))) :=
 (forU (bQ) (fun (out_20, o25) =>
 (some (some (o25, out_20)))) o3.2.toNat 0 ([], o3.1))
def eO (r_ : a8) : Option (Option (a8 × (List Ver))) :=
 (Option.bind (br r_) fun z1 => (optm z1
 (some none)
 fun o3 =>
 (bif (decide ((w64 ((o3.1.b.length : Int) - o3.1.at_)) < o3.2)) then
 (some none)
 else
 (fv o3 ))))
def gi (r_ : a8) : Option (Option (a8 × Rec)) :=
 (Option.bind (dH r_) fun z2 => (optm z2
 (some none)
 fun o4 =>
 (Option.bind (eO o4.1) fun z14 => (optm z14
 (some none)
 fun o16 =>
 (some (some (o16.1, (⟨o4.2, o16.2⟩ : Rec))))))))

def fk (b0v0 : ByteArray) (b0v1 : List Ver) (b1v : Int) : Option (ByteArray × (List Ver) × Int) :=
 (some (ByteArray.empty, [], 2))
def ic (f4 : Span → Option Bool) (i5 : Nat) (ei5 : Span) : Span → Option Bool := fun x2 =>
 (bif (((((((decide (ei5.s < 1)) || (decide (16 < ei5.s))) || (decide (ei5.f < 1))) || (decide (ei5.t < ei5.f))) || (decide (4611686018427387904 < ei5.t))) || (decide (ei5.s < x2.s))) || ((ei5.s == x2.s) && (decide (ei5.f ≤ (w64 (x2.t + 1)))))) then
 (some false)
 else
 (f4 ei5))
def gM (l : List Span) : Option Bool :=
 (forI (ic) (fun x2 =>
 (some (decide ((l.length : Int) ≤ 1024)))) 0 l (⟨0, 0, 0⟩ : Span))
def jj (f3 : Int → Option Int) (top_10 : Int) : Option Int :=
 (f3 top_10)
def kY (s_ : Int) (f3 : Int → Option Int) (i4 : Nat) (ei4 : Span) : Int → Option Int := fun top_1 =>
 (bif (ei4.s == s_) then
 (jj f3 (max top_1 ei4.t))
 else
 (jj f3 top_1))
def lz (l : List Span) (s_ : Int) : Option Int :=
 (forI (kY s_) (fun top_1 =>
 (some top_1)) 0 l 0)
def dX (v_ : Ver) : Option Bool :=
 (Option.bind (gM [(⟨v_.dot.s, v_.dot.n, v_.dot.n⟩ : Span)]) fun z6 => (Option.bind (dM z6 (gM v_.past)) fun z11 => (Option.bind (dM (z6 && z11) (lz v_.past v_.dot.s)) fun z22 => (some ((((z6 && z11) && (decide (z22 < v_.dot.n))) && (decide ((v_.val.size : Int) ≤ 256))) && ((!v_.gone) || (v_.val == ByteArray.empty)))))))
def kZ (a : Dot) (b : Dot) : Option Bool :=
 (some ((decide (a.s < b.s)) || ((a.s == b.s) && (decide (a.n < b.n)))))
def kR (d : Dot) (f2 : Unit → Option Bool) (i3 : Nat) (ei3 : Span) : Unit → Option Bool := fun _ =>
 (bif (((ei3.s == d.s) && (decide (ei3.f ≤ d.n))) && (decide (d.n ≤ ei3.t))) then
 (some true)
 else
 (f2 ()))
def nN (l : List Span) (d : Dot) : Option Bool :=
 (forI (kR d) (fun _ =>
 (some false)) 0 l ())
def je (d : Dot) (f2 : Unit → Option Bool) (i3 : Nat) (ei3 : Ver) : Unit → Option Bool := fun _ =>
 (Option.bind (nN (ei3.past) d) fun z13 => (bif z13 then
 (some true)
 else
 (f2 ())))
def jo (d : Dot) (l : List Ver) : Option Bool :=
 (forI (je d) (fun _ =>
 (some false)) 0 l ())
def ij (l : List Ver) (f1 : Unit → Option Bool) (i2 : Nat) (ei2 : Ver) : Unit → Option Bool := fun _ =>
 (Option.bind (dX ei2) fun z12 => (chk (imp ((!(!z12)) && (decide (0 < (i2 : Int)))) (inb (w64 ((i2 : Int) - 1)) l.length)) (Option.bind (dM ((!(!z12)) && (decide (0 < (i2 : Int)))) (kZ ((gt l ((w64 ((i2 : Int) - 1)).toNat)).dot) (ei2.dot))) fun z30 => (Option.bind (dM (!((!z12) || ((decide (0 < (i2 : Int))) && (!z30)))) (jo (ei2.dot) l)) fun z38 => (bif (((!z12) || ((decide (0 < (i2 : Int))) && (!z30))) || z38) then
 (some false)
 else
 (f1 ()))))))
def gS (l : List Ver) : Option Bool :=
 (forI (ij l) (fun _ =>
 (some (decide ((l.length : Int) ≤ 512)))) 0 l ())
def aI (r_ : Rec) : Option Bool :=
 (Option.bind (dM ((decide (1 ≤ (r_.key.size : Int))) && (decide ((r_.key.size : Int) ≤ 32))) (gS r_.vers)) fun z9 => (some (((decide (1 ≤ (r_.key.size : Int))) && (decide ((r_.key.size : Int) ≤ 32))) && z9)))
def eS (o7 : a8 × Rec)  : Option (Rec × Int) :=
 (some (o7.2, 0))
def gw (b : List UInt8) : Option (Rec × Int) :=
 (Option.bind (gi (⟨b, 0⟩ : a8)) fun z5 => (optm z5
 (Option.bind (fk ByteArray.empty [] 0) fun z10 => (some ((⟨z10.1, z10.2.1⟩ : Rec), z10.2.2)))
 fun o7 =>
 (Option.bind (dM (!(o7.1.at_ != (b.length : Int))) (aI o7.2)) fun z35 => (bif ((o7.1.at_ != (b.length : Int)) || (!z35)) then
 (Option.bind (fk o7.2.key o7.2.vers 0) fun z41 => (some ((⟨z41.1, z41.2.1⟩ : Rec), z41.2.2)))
 else
 (eS o7 )))))
def ky (b : List UInt8) : Option (Rec × Int) :=
 (Option.bind (gw b) fun z2 => (some (z2.1, z2.2)))
def dA (r_ : al) : Option (al × Rec) :=
 (chk (inle (min r_.at_ (r_.b.length : Int)) r_.b.length) (Option.bind (ky (List.drop ((min r_.at_ (r_.b.length : Int)).toNat) r_.b)) fun z5 => (some ((⟨r_.b, (r_.b.length : Int), (r_.bad || (z5.2 != 0))⟩ : al), z5.1))))
def cM (f24 : (List Int) × al → Option (al × (List Int))) (i25 : Nat) : (List Int) × al → Option (al × (List Int)) := fun (out_16, o21) =>
 (Option.bind (bD o21) fun z31 => (chk (decide (out_16.length + 1 ≤ lim)) (f24 ((out_16 ++ [z31.2]), z31.1))))
def gU (r_ : al) : Option (al × (List Int)) :=
 (Option.bind (bD r_) fun z1 => (bif (decide ((w64 ((z1.1.b.length : Int) - z1.1.at_)) < z1.2)) then
 (some ((⟨z1.1.b, z1.1.at_, true⟩ : al), []))
 else
 (forU (cM) (fun (out_16, o21) =>
 (some (o21, out_16))) z1.2.toNat 0 ([], z1.1))))
inductive am where
  | nil
  | queue_issue (x : ar)
  | queue_did (x : aj)
  | queue_ack (x : ak)
  | queue_clear (x : au)
  deriving Inhabited
def am.el {R : Type} (z : am) (f0 : Option R) (f1 : ar → Option R) (f2 : aj → Option R) (f3 : ak → Option R) (f4 : au → Option R) : Option R := match z with
  | .nil => f0
  | .queue_issue x => f1 x
  | .queue_did x => f2 x
  | .queue_ack x => f3 x
  | .queue_clear x => f4 x
theorem am.e_nil {R : Type} {z : am} {f0 : Option R} {f1 : ar → Option R} {f2 : aj → Option R} {f3 : ak → Option R} {f4 : au → Option R} {r : R} (ho : z = .nil) (h : am.el z f0 f1 f2 f3 f4 = some r) : f0 = some r := by subst ho; exact h
theorem am.e_queue_issue {R : Type} {z : am} {x : ar} {f0 : Option R} {f1 : ar → Option R} {f2 : aj → Option R} {f3 : ak → Option R} {f4 : au → Option R} {r : R} (ho : z = .queue_issue x) (h : am.el z f0 f1 f2 f3 f4 = some r) : f1 x = some r := by subst ho; exact h
theorem am.e_queue_did {R : Type} {z : am} {x : aj} {f0 : Option R} {f1 : ar → Option R} {f2 : aj → Option R} {f3 : ak → Option R} {f4 : au → Option R} {r : R} (ho : z = .queue_did x) (h : am.el z f0 f1 f2 f3 f4 = some r) : f2 x = some r := by subst ho; exact h
theorem am.e_queue_ack {R : Type} {z : am} {x : ak} {f0 : Option R} {f1 : ar → Option R} {f2 : aj → Option R} {f3 : ak → Option R} {f4 : au → Option R} {r : R} (ho : z = .queue_ack x) (h : am.el z f0 f1 f2 f3 f4 = some r) : f3 x = some r := by subst ho; exact h
theorem am.e_queue_clear {R : Type} {z : am} {x : au} {f0 : Option R} {f1 : ar → Option R} {f2 : aj → Option R} {f3 : ak → Option R} {f4 : au → Option R} {r : R} (ho : z = .queue_clear x) (h : am.el z f0 f1 f2 f3 f4 = some r) : f4 x = some r := by subst ho; exact h
def aW (b : List UInt8) : Option (am × Bool) :=
 (Option.bind (bD (⟨b, 0, false⟩ : al)) fun z3 => (bif (z3.2 == 1) then
 (Option.bind (dA z3.1) fun z13 => (some ((am.queue_issue (⟨(⟨z13.2.key, z13.2.vers⟩ : Rec)⟩ : ar)), ((!z13.1.bad) && (z13.1.at_ == (b.length : Int))))))
 else
 (bif (z3.2 == 2) then
 (Option.bind (gU z3.1) fun z33 => (Option.bind (dA z33.1) fun z45 => (some ((am.queue_did (⟨z33.2, (⟨z45.2.key, z45.2.vers⟩ : Rec)⟩ : aj)), ((!z45.1.bad) && (z45.1.at_ == (b.length : Int)))))))
 else
 (bif (z3.2 == 3) then
 none
 else
 (bif (z3.2 == 4) then
 (Option.bind (bD z3.1) fun z71 => (Option.bind (bD z71.1) fun z80 => (some ((am.queue_ack (⟨z71.2, z80.2⟩ : ak)), ((!z80.1.bad) && (z80.1.at_ == (b.length : Int)))))))
 else
 (bif (z3.2 == 5) then
 (Option.bind (bD z3.1) fun z98 => (some ((am.queue_clear (⟨z98.2⟩ : au)), ((!z98.1.bad) && (z98.1.at_ == (b.length : Int))))))
 else
 (bif (z3.2 == 6) then
 none
 else
 (bif (z3.2 == 7) then
 none
 else
 (bif (z3.2 == 8) then
 none
 else
 (bif (z3.2 == 9) then
 none
 else
 (some (am.nil, false))))))))))))
def kP (q : a6) : Option Bool :=
 (some false)
def cG (q : a6) : Option Unit :=
 (some ())
def fY (q : a6) (r_ : Rec) : Option Bool :=
 (Option.bind (aI r_) fun z2 => (chk (imp (z2 && ((r_.vers.length : Int) == 1)) (decide (0 < r_.vers.length))) (some ((z2 && ((r_.vers.length : Int) == 1)) && (decide ((gt r_.vers 0).dot.s ≤ q.c_sites))))))
def lV (f1 : Unit → Option Bool) (i2 : Nat) (ei2 : Int) : Unit → Option Bool := fun _ =>
 (bif ((decide (ei2 < 0)) || (decide (4611686018427387904 < ei2))) then
 (some false)
 else
 (f1 ()))
def jY (v_ : List Int) : Option Bool :=
 (forI (lV) (fun _ =>
 (some ((decide (1 ≤ (v_.length : Int))) && (decide ((v_.length : Int) ≤ 16))))) 0 v_ ())
def fg (v_ : List Int) (s_ : Int) : Option (Dot × Int) :=
 (Option.bind (jY v_) fun z2 => (bif (((!z2) || (decide (s_ < 1))) || (decide ((v_.length : Int) < s_))) then
 (some ((⟨0, 0⟩ : Dot), 1))
 else
 (chk (inb (w64 (s_ - 1)) v_.length) (bif ((gt v_ ((w64 (s_ - 1)).toNat)) == 4611686018427387904) then
 (some ((⟨0, 0⟩ : Dot), 40))
 else
 (some ((⟨s_, (w64 ((gt v_ ((w64 (s_ - 1)).toNat)) + 1))⟩ : Dot), 0))))))
def nn (v_ : List Int) (d : Dot) : Option Bool :=
 (chk (imp (((decide (1 ≤ d.s)) && (decide (d.s ≤ (v_.length : Int)))) && (decide (1 ≤ d.n))) (inb (w64 (d.s - 1)) v_.length)) (some ((((decide (1 ≤ d.s)) && (decide (d.s ≤ (v_.length : Int)))) && (decide (1 ≤ d.n))) && (decide (d.n ≤ (gt v_ ((w64 (d.s - 1)).toNat)))))))
def qp (v_ : List Int) (f1 : Unit → Option Bool) (i2 : Nat) (ei2 : Span) : Unit → Option Bool := fun _ =>
 (Option.bind (nn v_ (⟨ei2.s, ei2.t⟩ : Dot)) fun z9 => (bif (!z9) then
 (some false)
 else
 (f1 ())))
def nT (v_ : List Int) (l : List Span) : Option Bool :=
 (forI (qp v_) (fun _ =>
 (some true)) 0 l ())
def de (q : a6) (r_ : Rec) : Option Bool :=
 (Option.bind (fY q r_) fun z2 => (bif (!z2) then
 (some false)
 else
 (chk (decide (0 < r_.vers.length)) (Option.bind (fg q.applied ((gt r_.vers 0).dot.s)) fun z16 => (Option.bind (dM ((z16.2 == 0) && (z16.1 == (gt r_.vers 0).dot)) (nT q.applied ((gt r_.vers 0).past))) fun z36 => (some (((z16.2 == 0) && (z16.1 == (gt r_.vers 0).dot)) && z36)))))))
def bC (q : a6) (x_ : ar) : Option Bool :=
 (Option.bind (dM (Option.isNone q.under) (de q x_.r)) fun z13 => (chk (imp ((Option.isNone q.under) && z13) (decide (0 < x_.r.vers.length))) (some (((Option.isNone q.under) && z13) && ((gt x_.r.vers 0).dot.s == q.c_self)))))
def aT (q : a6) (x_ : ar) : Option a6 :=
 (some (⟨q.c_self, q.c_sites, q.c_links, q.c_cap, q.c_base, q.c_members, q.log, q.applied, (some x_.r), q.list, q.next, q.gaps, q.members⟩ : a6))
def aX (v_ : Int) (f1 : Unit → Option Int) (i2 : Nat) (ei2 : Int) : Unit → Option Int := fun _ =>
 (bif (v_ == ei2) then
 (some (i2 : Int))
 else
 (f1 ()))
def dm (s_ : List Int) (v_ : Int) : Option Int :=
 (forI (aX v_) (fun _ =>
 (some (-1))) 0 s_ ())
def aY (s_ : List Int) (v_ : Int) : Option Bool :=
 (Option.bind (dm s_ v_) fun z1 => (some (decide (0 ≤ z1))))
def fp (q : a6) (l : List Int) (f1 : Unit → Option Bool) (i2 : Nat) (ei2 : Int) : Unit → Option Bool := fun _ =>
 (Option.bind (dM (!((decide (ei2 < 1)) || (decide (q.c_sites < ei2)))) (aY (List.take i2 l) ei2)) fun z26 => (bif (((decide (ei2 < 1)) || (decide (q.c_sites < ei2))) || z26) then
 (some false)
 else
 (f1 ())))
def eF (q : a6) (l : List Int) : Option Bool :=
 (forI (fp q l) (fun _ =>
 (some true)) 0 l ())
def rx (b : Ver) (f21 : Unit → Option Bool) (i22 : Nat) (ei22 : Span) : Unit → Option Bool := fun _ =>
 (chk (decide (i22 < b.past.length)) (bif (ei22 != (gt b.past i22)) then
 (some false)
 else
 (f21 ())))
def kL (a : Ver) (b : Ver) : Option Bool :=
 (bif ((((a.dot != b.dot) || (a.gone != b.gone)) || (a.val != b.val)) || ((a.past.length : Int) != (b.past.length : Int))) then
 (some false)
 else
 (forI (rx b) (fun _ =>
 (some true)) 0 a.past ()))
def kA (a : List Ver) (b : List Ver) (f1 : Unit → Option Bool) (i2 : Nat) : Unit → Option Bool := fun _ =>
 (chk (decide (i2 < a.length)) (chk (decide (i2 < b.length)) (Option.bind (kL (gt a i2) (gt b i2)) fun z16 => (bif (!z16) then
 (some false)
 else
 (f1 ())))))
def kJ (a : List Ver) (b : List Ver) : Option Bool :=
 (forU (kA a b) (fun _ =>
 (some ((a.length : Int) == (b.length : Int)))) ((min (a.length : Int) (b.length : Int)).toNat) 0 ())
def bA (q : a6) (x_ : aj) : Option Bool :=
 (Option.bind (dM (decide (q.next ≤ 4611686018427387904)) (de q x_.r)) fun z13 => (Option.bind (dM ((decide (q.next ≤ 4611686018427387904)) && z13) (eF q x_.route)) fun z19 => (chk (imp (((decide (q.next ≤ 4611686018427387904)) && z13) && z19) (decide (0 < x_.r.vers.length))) (chk (imp (((((decide (q.next ≤ 4611686018427387904)) && z13) && z19) && (!((gt x_.r.vers 0).dot.s != q.c_self))) && (!(Option.isNone q.under))) (Option.isSome q.under)) (chk (imp (((((decide (q.next ≤ 4611686018427387904)) && z13) && z19) && (!((gt x_.r.vers 0).dot.s != q.c_self))) && ((!(Option.isNone q.under)) && ((gt [gvo q.under] 0).key == x_.r.key))) (Option.isSome q.under)) (Option.bind (dM (((((decide (q.next ≤ 4611686018427387904)) && z13) && z19) && (!((gt x_.r.vers 0).dot.s != q.c_self))) && ((!(Option.isNone q.under)) && ((gt [gvo q.under] 0).key == x_.r.key))) (kJ ((gt [gvo q.under] 0).vers) x_.r.vers)) fun z77 => (some ((((decide (q.next ≤ 4611686018427387904)) && z13) && z19) && (((gt x_.r.vers 0).dot.s != q.c_self) || (((!(Option.isNone q.under)) && ((gt [gvo q.under] 0).key == x_.r.key)) && z77))))))))))
def jJ (v_ : List Int) (d : Dot) : Option ((List Int) × Int) :=
 (Option.bind (fg v_ d.s) fun z2 => (bif ((z2.2 != 0) || (z2.1 != d)) then
 (some ([], 1))
 else
 (chk (decide (0 + v_.length ≤ lim)) (chk (inb (w64 (d.s - 1)) ((([] : List Int) ++ v_).length)) (some ((List.set (([] : List Int) ++ v_) ((w64 (d.s - 1)).toNat) d.n), 0))))))
def jA (f9 : List (Int × Bool) → Option a6) (i10 : Nat) (ei10 : Int) : List (Int × Bool) → Option a6 := fun m6 =>
 (f9 (mput ei10 true m6))
def ej (q : a6) (seq : Int) (r_ : Rec) (route : List Int) (sinks : List Int) : Option a6 :=
 (forI (jA) (fun m6 =>
 (bif (decide (0 < (sinks.length : Int))) then
 (chk (decide (q.list.length + 1 ≤ lim)) (some (⟨q.c_self, q.c_sites, q.c_links, q.c_cap, q.c_base, q.c_members, q.log, q.applied, q.under, (q.list ++ [(⟨(⟨seq, (⟨r_.key, r_.vers⟩ : Rec), route⟩ : aq), m6⟩ : az)]), q.next, q.gaps, q.members⟩ : a6)))
 else
 (some q))) 0 sinks ([] : List (Int × Bool)))
def gy (f40 : List Int → Option a6) (sinks_47 : List Int) : Option a6 :=
 (f40 sinks_47)
def d4 : List (Int × Bool) → (Int × Bool) → Option (List (Int × Bool)) := fun m88 en98 =>
 (some (mput en98.1 true m88))
def bK (x_ : aj) (f40 : List Int → Option a6) (i41 : Nat) (ei41 : Int) : List Int → Option a6 := fun sinks_35 =>
 (Option.bind (aY x_.route ei41) fun z52 => (bif (!z52) then
 (chk (decide (sinks_35.length + 1 ≤ lim)) (gy f40 (sinks_35 ++ [ei41])))
 else
 (gy f40 sinks_35)))
def ei (x_ : aj) (o26 : a6) : Option a6 :=
 (forI (bK x_) (fun sinks_35 =>
 (Option.bind (ej o26 o26.next x_.r x_.route sinks_35) fun z69 => (bif (decide (z69.c_cap < (z69.list.length : Int))) then
 (chk (decide (0 < z69.list.length)) (Option.bind (fldO (d4) z69.gaps ((gt z69.list 0).want)) (fun m107 =>
 (chk (decide (1 ≤ z69.list.length)) (some (⟨z69.c_self, z69.c_sites, z69.c_links, z69.c_cap, z69.c_base, z69.c_members, z69.log, z69.applied, z69.under, (List.drop 1 z69.list), (w64 (z69.next + 1)), m107, z69.members⟩ : a6))))))
 else
 (some (⟨z69.c_self, z69.c_sites, z69.c_links, z69.c_cap, z69.c_base, z69.c_members, z69.log, z69.applied, z69.under, z69.list, (w64 (z69.next + 1)), z69.gaps, z69.members⟩ : a6))))) 0 o26.c_links [])
def iH (q : a6) (x_ : aj) : Option a6 :=
 (chk (decide (0 < x_.r.vers.length)) (Option.bind (jJ q.applied ((gt x_.r.vers 0).dot)) fun z9 => (bif ((gt x_.r.vers 0).dot.s == (⟨q.c_self, q.c_sites, q.c_links, q.c_cap, q.c_base, q.c_members, q.log, z9.1, q.under, q.list, q.next, q.gaps, q.members⟩ : a6).c_self) then
 (ei x_ (⟨(⟨q.c_self, q.c_sites, q.c_links, q.c_cap, q.c_base, q.c_members, q.log, z9.1, q.under, q.list, q.next, q.gaps, q.members⟩ : a6).c_self, (⟨q.c_self, q.c_sites, q.c_links, q.c_cap, q.c_base, q.c_members, q.log, z9.1, q.under, q.list, q.next, q.gaps, q.members⟩ : a6).c_sites, (⟨q.c_self, q.c_sites, q.c_links, q.c_cap, q.c_base, q.c_members, q.log, z9.1, q.under, q.list, q.next, q.gaps, q.members⟩ : a6).c_links, (⟨q.c_self, q.c_sites, q.c_links, q.c_cap, q.c_base, q.c_members, q.log, z9.1, q.under, q.list, q.next, q.gaps, q.members⟩ : a6).c_cap, (⟨q.c_self, q.c_sites, q.c_links, q.c_cap, q.c_base, q.c_members, q.log, z9.1, q.under, q.list, q.next, q.gaps, q.members⟩ : a6).c_base, (⟨q.c_self, q.c_sites, q.c_links, q.c_cap, q.c_base, q.c_members, q.log, z9.1, q.under, q.list, q.next, q.gaps, q.members⟩ : a6).c_members, (⟨q.c_self, q.c_sites, q.c_links, q.c_cap, q.c_base, q.c_members, q.log, z9.1, q.under, q.list, q.next, q.gaps, q.members⟩ : a6).log, (⟨q.c_self, q.c_sites, q.c_links, q.c_cap, q.c_base, q.c_members, q.log, z9.1, q.under, q.list, q.next, q.gaps, q.members⟩ : a6).applied, none, (⟨q.c_self, q.c_sites, q.c_links, q.c_cap, q.c_base, q.c_members, q.log, z9.1, q.under, q.list, q.next, q.gaps, q.members⟩ : a6).list, (⟨q.c_self, q.c_sites, q.c_links, q.c_cap, q.c_base, q.c_members, q.log, z9.1, q.under, q.list, q.next, q.gaps, q.members⟩ : a6).next, (⟨q.c_self, q.c_sites, q.c_links, q.c_cap, q.c_base, q.c_members, q.log, z9.1, q.under, q.list, q.next, q.gaps, q.members⟩ : a6).gaps, (⟨q.c_self, q.c_sites, q.c_links, q.c_cap, q.c_base, q.c_members, q.log, z9.1, q.under, q.list, q.next, q.gaps, q.members⟩ : a6).members⟩ : a6))
 else
 (ei x_ (⟨q.c_self, q.c_sites, q.c_links, q.c_cap, q.c_base, q.c_members, q.log, z9.1, q.under, q.list, q.next, q.gaps, q.members⟩ : a6)))))
def aM (q : a6) (x_ : aj) : Option a6 :=
 (Option.bind (iH q x_) fun z2 => (some z2))
def dN (q : a6) (n : Int) : Option Bool :=
 (Option.bind (dM (decide (n ≤ 16)) (aY q.c_links n)) fun z14 => (some ((decide (n ≤ 16)) && z14)))
def bx (q : a6) (x_ : ak) : Option Bool :=
 (Option.bind (dN q x_.sink) fun z3 => (some (z3 && (decide (0 < x_.seq)))))
def lZ (e_ : aB) (e_m : List (Int × Bool)) : Option Bool :=
 (some ((e_m.length : Int) == 0))

def cO (f8 : a6 → Option a6) (o15 : a6) : Option a6 :=
 (f8 o15)
def gX (x_ : ak) (f8 : a6 → Option a6) (i9 : Nat) : a6 → Option a6 := fun o5 =>
 (chk (decide (i9 < o5.list.length)) (bif ((gt o5.list i9).entry.seq == x_.seq) then
 (cO f8 (⟨o5.c_self, o5.c_sites, o5.c_links, o5.c_cap, o5.c_base, o5.c_members, o5.log, o5.applied, o5.under, (List.set o5.list i9 (aK.up (gt o5.list i9) (mdel x_.sink ((gt o5.list i9).want)))), o5.next, o5.gaps, o5.members⟩ : a6))
 else
 (cO f8 o5)))
def aL (q : a6) (x_ : ak) : Option a6 :=
 (forU (gX x_) (fun o5 =>
 (some (⟨o5.c_self, o5.c_sites, o5.c_links, o5.c_cap, o5.c_base, o5.c_members, o5.log, o5.applied, o5.under, (List.filter (fun x => !(x.want.length == 0)) o5.list), o5.next, o5.gaps, o5.members⟩ : a6))) q.list.length 0 q)
def bw (q : a6) (x_ : au) : Option Bool :=
 (Option.bind (dN q x_.sink) fun z3 => (some z3))
def b7 (q : a6) (x_ : au) : Option a6 :=
 (some (⟨q.c_self, q.c_sites, q.c_links, q.c_cap, q.c_base, q.c_members, q.log, q.applied, q.under, q.list, q.next, (mdel x_.sink q.gaps), q.members⟩ : a6))
def ie (z5 : a7 × (Option af) × (List (List UInt8)) × Int) (f89 : a6 → Option (a7 × (Option a6) × Int)) (i90 : Nat) (ei90 : (List UInt8)) : a6 → Option (a7 × (Option a6) × Int) := fun o86 =>
 (Option.bind (aW ei90) fun z99 => (am.el z99.1
 ((Option.bind (dM (!(!z99.2)) (kP o86)) fun z120 => (bif ((!z99.2) || (!z120)) then
 (some (z5.1, none, 2))
 else
 (Option.bind (cG o86) fun z124 => (f89 o86)))))
 (fun o106 =>
 (Option.bind (dM (!(!z99.2)) (bC o86 o106)) fun z133 => (bif ((!z99.2) || (!z133)) then
 (some (z5.1, none, 2))
 else
 (Option.bind (aT o86 o106) fun z137 => (f89 z137)))))
 (fun o106 =>
 (Option.bind (dM (!(!z99.2)) (bA o86 o106)) fun z148 => (bif ((!z99.2) || (!z148)) then
 (some (z5.1, none, 2))
 else
 (Option.bind (aM o86 o106) fun z152 => (f89 z152)))))
 (fun o106 =>
 (Option.bind (dM (!(!z99.2)) (bx o86 o106)) fun z163 => (bif ((!z99.2) || (!z163)) then
 (some (z5.1, none, 2))
 else
 (Option.bind (aL o86 o106) fun z167 => (f89 z167)))))
 (fun o106 =>
 (Option.bind (dM (!(!z99.2)) (bw o86 o106)) fun z178 => (bif ((!z99.2) || (!z178)) then
 (some (z5.1, none, 2))
 else
 (Option.bind (b7 o86 o106) fun z182 => (f89 z182)))))))
def dZ (c_ : aa) (f54 : List Int → Option (a7 × (Option a6) × Int)) (i55 : Nat) : List Int → Option (a7 × (Option a6) × Int) := fun x49 =>
 (chk (decide (x49.length + 1 ≤ lim)) (f54 (x49 ++ [c_.base])))
def ea (d : a7) (size : Int) (c_ : aa) : Option (a7 × (Option a6) × Int) :=
 (Option.bind (dB c_) fun z2 => (bif (!z2) then
 (some (d, none, 1))
 else
 (Option.bind (fN d (⟨#[103]⟩ : ByteArray) size) fun z5 => (bif (z5.2.2.2 != 0) then
 (some (z5.1, none, z5.2.2.2))
 else
 (Option.bind (bR c_.links) fun z22 => (Option.bind z5.2.1 fun z32 => (Option.bind (bR c_.members) fun z36 => (forU (dZ c_) (fun x49 =>
 (forI (ie z5) (fun o86 =>
 (some (z5.1, (some o86), 0))) 0 z5.2.2.1 (⟨c_.self, c_.sites, z22, c_.cap, c_.base, c_.members, z32, x49, none, ([] : List az), 1, ([] : List (Int × Bool)), z36⟩ : a6))) c_.sites.toNat 0 []))))))))
def dW (f7 : (List UInt8) × Int → Option (List UInt8)) : (List UInt8) × Int → Option (List UInt8) := fun (b_1, u_6) =>
 (bif (decide (127 < u_6)) then
 (chk (u8b (ior .u8 (wu8 u_6) 128)) (chk (decide (b_1.length + 1 ≤ lim)) (f7 ((b_1 ++ [(b8 (ior .u8 (wu8 u_6) 128))]), (ishr .u64 u_6 7)))))
 else
 (chk (decide (b_1.length + 1 ≤ lim)) (some (b_1 ++ [(b8 (wu8 u_6))]))))
def ef (n : Int) : Option (List UInt8) :=
 (loopN (dW) FU ([], (wu64 (max n 0))))
def dV (f8 : List UInt8 → Option (List UInt8)) (i9 : Nat) (ei9 : Int) : List UInt8 → Option (List UInt8) := fun b_3 =>
 (Option.bind (ef ei9) fun z15 => (chk (decide (b_3.length + z15.length ≤ lim)) (f8 (b_3 ++ z15))))
def eb (b : List UInt8) (l : List Int) : Option (List UInt8) :=
 (forI (dV) (fun b_3 =>
 (some b_3)) 0 l b)
def kS (s_ : ByteArray) : Option (List UInt8) :=
 (Option.bind (ef (s_.size : Int)) fun z1 => (chk (decide (z1.length + s_.size ≤ lim)) (some (z1 ++ s_.data.toList))))
def dF (w_ : ae) (s_ : ByteArray) : Option ae :=
 (Option.bind (kS s_) fun z2 => (chk (decide (w_.b.length + z2.length ≤ lim)) (some (⟨(w_.b ++ z2)⟩ : ae))))
def cx (w_ : ae) (n : Int) : Option ae :=
 (Option.bind (ef n) fun z2 => (chk (decide (w_.b.length + z2.length ≤ lim)) (some (⟨(w_.b ++ z2)⟩ : ae))))
def bH (w_ : ae) (n : Int) : Option ae :=
 (Option.bind (cx w_ n) fun z1 => (some z1))
def dC (w_ : ae) (x_ : Span) : Option ae :=
 (Option.bind (bH w_ x_.s) fun z2 => (Option.bind (cx z2 x_.f) fun z10 => (Option.bind (cx z10 (w64 (x_.t - x_.f))) fun z18 => (some z18))))
def bO (f14 : ae → Option ae) (i15 : Nat) (ei15 : Span) : ae → Option ae := fun o11 =>
 (Option.bind (dC o11 ei15) fun z22 => (f14 z22))
def eG (w_ : ae) (l : List Span) : Option ae :=
 (Option.bind (bH w_ (l.length : Int)) fun z1 => (forI (bO) (fun o11 =>
 (some o11)) 0 l z1))
def e8 (w_ : ae) (v_ : Ver) : Option ae :=
 (Option.bind (bH w_ v_.dot.s) fun z2 => (Option.bind (cx z2 v_.dot.n) fun z10 => (Option.bind (eG z10 v_.past) fun z18 => (bif v_.gone then
 (Option.bind (bH z18 1) fun z27 => (some z27))
 else
 (Option.bind (bH z18 0) fun z35 => (Option.bind (dF z35 v_.val) fun z43 => (some z43)))))))
def ce (f14 : ae → Option ae) (i15 : Nat) (ei15 : Ver) : ae → Option ae := fun o11 =>
 (Option.bind (e8 o11 ei15) fun z25 => (f14 z25))
def iq (w_ : ae) (l : List Ver) : Option ae :=
 (Option.bind (bH w_ (l.length : Int)) fun z1 => (forI (ce) (fun o11 =>
 (some o11)) 0 l z1))
def fW (w_ : ae) (r_ : Rec) : Option ae :=
 (Option.bind (dF w_ r_.key) fun z2 => (Option.bind (iq z2 r_.vers) fun z10 => (some z10)))
def hO (r_ : Rec) : Option ((List UInt8) × Int) :=
 (Option.bind (aI r_) fun z2 => (bif (!z2) then
 (some ([], 1))
 else
 (Option.bind (fW (⟨[]⟩ : ae) r_) fun z7 => (some (z7.b, 0)))))
def iN (b : List UInt8) (r_ : Rec) : Option (List UInt8) :=
 (Option.bind (hO r_) fun z2 => (chk (decide (b.length + z2.1.length ≤ lim)) (some (b ++ z2.1))))
def i8 (x_ : ar) : Option (List UInt8) :=
 (Option.bind (eb [] [1]) fun z10 => (Option.bind (iN z10 x_.r) fun z20 => (some z20)))
def kc (z13 : Int) (f20 : List UInt8 → Option ((List UInt8) × Int)) (i21 : Nat) : List UInt8 → Option ((List UInt8) × Int) := fun out_15 =>
 (chk (decide (0 ≤ (w64 (8 * (i21 : Int))))) (chk (decide (out_15.length + 1 ≤ lim)) (f20 (out_15 ++ [(b8 (wu8 (ishr .u32 z13 (w64 (8 * (i21 : Int))))))]))))
def iu (b : List UInt8) : Option ((List UInt8) × Int) :=
 (bif (decide (1048576 < (b.length : Int))) then
 (some ([], 3))
 else
 (Option.bind (ef (b.length : Int)) fun z2 => (Option.bind (jv ([z2, b] : List (List UInt8))) fun z13 => (forU (kc z13) (fun out_15 =>
 (chk (decide (out_15.length + b.length ≤ lim)) (some ((out_15 ++ b), 0)))) 4 0 z2))))
def eL : Int → (ByteArray × (List UInt8)) → Option Int := fun n_12 en23 =>
 (some (w64 (n_12 + (en23.2.length : Int))))
def gN (d : a7) : Option Int :=
 (Option.bind (fldO (eL) 0 d.seen) (fun n_12 =>
 (some n_12)))
def kd (name : ByteArray) (b : List UInt8) : Option ah :=
 (some (ah.disk_add_1 name b))
def fB (d : a7) (name : ByteArray) (b : List UInt8) : Option (a7 × Int) :=
 (Option.bind (iC [name]) fun z3 => (bif (!z3) then
 (some (d, 70))
 else
 (Option.bind (gN d) fun z7 => (bif (decide ((w64 (d.room - z7)) < (b.length : Int))) then
 (some (d, 72))
 else
 (Option.bind (ci b) fun z11 => (Option.bind (kd name z11) fun z26 => (Option.bind (dt d (⟨z26, name, z11⟩ : aw)) fun z36 => (some (z36.1, z36.2)))))))))
def fy (l : af) (part_15 : Int) (tail_17 : Int) (f_40 : List UInt8) (e_45 : Int) (o47 : a7) : Option (af × a7 × Int) :=
 (bif (e_45 != 0) then
 (some (l, o47, e_45))
 else
 (some ((⟨l.place_name, l.place_gen, l.size, part_15, (w64 (tail_17 + (f_40.length : Int))), (w64 (l.count + 1)), (w64 (l.bytes + (f_40.length : Int)))⟩ : af), o47, 0)))
def cE (l : af) (dk0 : a7) (z1 : (List UInt8) × Int) (part_15 : Int) (tail_17 : Int) : Option (af × a7 × Int) :=
 (bif (decide (999999 < part_15)) then
 (some (l, dk0, 72))
 else
 (Option.bind (cH l.place_name l.place_gen l.place_gen part_15) fun z57 => (chk (decide (z57.size ≤ lim)) (Option.bind (fB dk0 z57 z1.1) fun z60 => (fy l part_15 tail_17 z1.1 z60.2 z60.1)))))
def b4 (l : af) (b : List UInt8) (dk0 : a7) : Option (af × a7 × Int) :=
 (Option.bind (iu b) fun z1 => (bif (z1.2 != 0) then
 (some (l, dk0, z1.2))
 else
 (bif ((l.last == 0) || ((decide (0 < l.tail)) && (decide ((w64 (l.size - l.tail)) < (z1.1.length : Int))))) then
 (cE l dk0 z1 (w64 (l.last + 1)) 0)
 else
 (cE l dk0 z1 l.last l.tail))))
def cc (l : af) (dk0 : a7) : Option a7 :=
 (Option.bind (eU dk0) fun z2 => (some z2))
def db (q : a6) (z4 : List UInt8) (z20 : af × a7 × Int) (o36 : a7) : Option (a6 × a7 × Int) :=
 (Option.bind (aW z4) fun z50 => (am.el z50.1
 ((Option.bind (cG (⟨q.c_self, q.c_sites, q.c_links, q.c_cap, q.c_base, q.c_members, z20.1, q.applied, q.under, q.list, q.next, q.gaps, q.members⟩ : a6)) fun z68 => (some ((⟨q.c_self, q.c_sites, q.c_links, q.c_cap, q.c_base, q.c_members, z20.1, q.applied, q.under, q.list, q.next, q.gaps, q.members⟩ : a6), o36, 0))))
 (fun o57 =>
 (Option.bind (aT (⟨q.c_self, q.c_sites, q.c_links, q.c_cap, q.c_base, q.c_members, z20.1, q.applied, q.under, q.list, q.next, q.gaps, q.members⟩ : a6) o57) fun z74 => (some (z74, o36, 0))))
 (fun o57 =>
 (Option.bind (aM (⟨q.c_self, q.c_sites, q.c_links, q.c_cap, q.c_base, q.c_members, z20.1, q.applied, q.under, q.list, q.next, q.gaps, q.members⟩ : a6) o57) fun z82 => (some (z82, o36, 0))))
 (fun o57 =>
 (Option.bind (aL (⟨q.c_self, q.c_sites, q.c_links, q.c_cap, q.c_base, q.c_members, z20.1, q.applied, q.under, q.list, q.next, q.gaps, q.members⟩ : a6) o57) fun z90 => (some (z90, o36, 0))))
 (fun o57 =>
 (Option.bind (b7 (⟨q.c_self, q.c_sites, q.c_links, q.c_cap, q.c_base, q.c_members, z20.1, q.applied, q.under, q.list, q.next, q.gaps, q.members⟩ : a6) o57) fun z98 => (some (z98, o36, 0))))))
def cY (q : a6) (x_ : ar) (sync : Bool) (dk0 : a7) : Option (a6 × a7 × Int) :=
 (Option.bind (bC q x_) fun z1 => (bif (!z1) then
 (some (q, dk0, 1))
 else
 (Option.bind (i8 x_) fun z4 => (Option.bind (b4 q.log z4 dk0) fun z20 => (bif (z20.2.2 != 0) then
 (some ((⟨q.c_self, q.c_sites, q.c_links, q.c_cap, q.c_base, q.c_members, z20.1, q.applied, q.under, q.list, q.next, q.gaps, q.members⟩ : a6), z20.2.1, z20.2.2))
 else
 (bif sync then
 (Option.bind (cc ((⟨q.c_self, q.c_sites, q.c_links, q.c_cap, q.c_base, q.c_members, z20.1, q.applied, q.under, q.list, q.next, q.gaps, q.members⟩ : a6).log) z20.2.1) fun z41 => (db q z4 z20 z41))
 else
 (db q z4 z20 z20.2.1)))))))
def iv (r_ : Rec) : Option Rec :=
 (Option.bind (hO r_) fun z3 => (Option.bind (ky z3.1) fun z19 => (some z19.1)))
def bF (q : a6) : Option (Rec × Bool) :=
 (bif (Option.isNone q.under) then
 (some ((⟨ByteArray.empty, []⟩ : Rec), false))
 else
 (chk (Option.isSome q.under) (Option.bind (iv (gt [gvo q.under] 0)) fun z9 => (some (z9, true)))))
def bX (q : a6) (key : ByteArray) (past : List Span) (gone : Bool) (val : ByteArray) (dk0 : a7) : Option (a6 × a7 × Ver × Int) :=
 (bif (!(Option.isNone q.under)) then
 (some (q, dk0, (⟨(⟨0, 0⟩ : Dot), [], false, ByteArray.empty⟩ : Ver), 202))
 else
 (Option.bind (fg q.applied q.c_self) fun z6 => (bif (z6.2 != 0) then
 (chk (i64b z6.2) (some (q, dk0, (⟨(⟨0, 0⟩ : Dot), [], false, ByteArray.empty⟩ : Ver), z6.2)))
 else
 (chk (i64b z6.1.s) (chk (i64b z6.1.n) (Option.bind (cY q (⟨(⟨key, [(⟨(⟨z6.1.s, z6.1.n⟩ : Dot), past, gone, val⟩ : Ver)]⟩ : Rec)⟩ : ar) true dk0) fun z23 => (bif (z23.2.2 != 0) then
 (some (z23.1, z23.2.1, (⟨(⟨0, 0⟩ : Dot), [], false, ByteArray.empty⟩ : Ver), z23.2.2))
 else
 (Option.bind (bF z23.1) fun z35 => (chk (decide (0 < z35.1.vers.length)) (some (z23.1, z23.2.1, (gt z35.1.vers 0), 0)))))))))))
def cI (f25 : List UInt8 → Option (List UInt8)) (i26 : Nat) (ei26 : Int) : List UInt8 → Option (List UInt8) := fun b_20 =>
 (Option.bind (eb b_20 [ei26]) fun z39 => (f25 z39))
def gQ (b : List UInt8) (l : List Int) : Option (List UInt8) :=
 (Option.bind (eb b [(l.length : Int)]) fun z8 => (forI (cI) (fun b_20 =>
 (some b_20)) 0 l z8))
def fc (x_ : aj) : Option (List UInt8) :=
 (Option.bind (eb [] [2]) fun z10 => (Option.bind (gQ z10 x_.route) fun z20 => (Option.bind (iN z20 x_.r) fun z30 => (some z30))))
def cz (q : a6) (z4 : List UInt8) (z20 : af × a7 × Int) (o36 : a7) : Option (a6 × a7 × Int) :=
 (Option.bind (aW z4) fun z50 => (am.el z50.1
 ((Option.bind (cG (⟨q.c_self, q.c_sites, q.c_links, q.c_cap, q.c_base, q.c_members, z20.1, q.applied, q.under, q.list, q.next, q.gaps, q.members⟩ : a6)) fun z68 => (some ((⟨q.c_self, q.c_sites, q.c_links, q.c_cap, q.c_base, q.c_members, z20.1, q.applied, q.under, q.list, q.next, q.gaps, q.members⟩ : a6), o36, 0))))
 (fun o57 =>
 (Option.bind (aT (⟨q.c_self, q.c_sites, q.c_links, q.c_cap, q.c_base, q.c_members, z20.1, q.applied, q.under, q.list, q.next, q.gaps, q.members⟩ : a6) o57) fun z74 => (some (z74, o36, 0))))
 (fun o57 =>
 (Option.bind (aM (⟨q.c_self, q.c_sites, q.c_links, q.c_cap, q.c_base, q.c_members, z20.1, q.applied, q.under, q.list, q.next, q.gaps, q.members⟩ : a6) o57) fun z82 => (some (z82, o36, 0))))
 (fun o57 =>
 (Option.bind (aL (⟨q.c_self, q.c_sites, q.c_links, q.c_cap, q.c_base, q.c_members, z20.1, q.applied, q.under, q.list, q.next, q.gaps, q.members⟩ : a6) o57) fun z90 => (some (z90, o36, 0))))
 (fun o57 =>
 (Option.bind (b7 (⟨q.c_self, q.c_sites, q.c_links, q.c_cap, q.c_base, q.c_members, z20.1, q.applied, q.under, q.list, q.next, q.gaps, q.members⟩ : a6) o57) fun z98 => (some (z98, o36, 0))))))
def cp (q : a6) (x_ : aj) (sync : Bool) (dk0 : a7) : Option (a6 × a7 × Int) :=
 (Option.bind (bA q x_) fun z1 => (bif (!z1) then
 (some (q, dk0, 1))
 else
 (Option.bind (fc x_) fun z4 => (Option.bind (b4 q.log z4 dk0) fun z20 => (bif (z20.2.2 != 0) then
 (some ((⟨q.c_self, q.c_sites, q.c_links, q.c_cap, q.c_base, q.c_members, z20.1, q.applied, q.under, q.list, q.next, q.gaps, q.members⟩ : a6), z20.2.1, z20.2.2))
 else
 (bif sync then
 (Option.bind (cc ((⟨q.c_self, q.c_sites, q.c_links, q.c_cap, q.c_base, q.c_members, z20.1, q.applied, q.under, q.list, q.next, q.gaps, q.members⟩ : a6).log) z20.2.1) fun z41 => (cz q z4 z20 z41))
 else
 (cz q z4 z20 z20.2.1)))))))
def d7 (q : a6) (r_ : Rec) (route : List Int) (dk0 : a7) : Option (a6 × a7 × Int) :=
 (Option.bind (cp q (⟨route, (⟨r_.key, r_.vers⟩ : Rec)⟩ : aj) true dk0) fun z2 => (some (z2.1, z2.2.1, z2.2.2)))
def dO (f10 : List aq → Option (List aq)) (out_19 : List aq) : Option (List aq) :=
 (f10 out_19)
def j3 (q : a6) (sink : Int) (n : Int) (f10 : List aq → Option (List aq)) (i11 : Nat) : List aq → Option (List aq) := fun out_5 =>
 (bif ((decide ((out_5.length : Int) < n)) && ((mget sink ((gt q.list i11).want)).getD false)) then
 (Option.bind (iv ((gt q.list i11).entry.rec_)) fun z35 => (Option.bind (bR ((gt q.list i11).entry.route)) fun z44 => (chk (decide (out_5.length + 1 ≤ lim)) (dO f10 (out_5 ++ [(⟨(gt q.list i11).entry.seq, (⟨z35.key, z35.vers⟩ : Rec), z44⟩ : aq)])))))
 else
 (dO f10 out_5))
def dG (q : a6) (sink : Int) (n : Int) : Option (List aq) :=
 (forU (j3 q sink n) (fun out_5 =>
 (some out_5)) q.list.length 0 [])
def bL (q : a6) : Option (List Int) :=
 (chk (decide (q.gaps.length ≤ lim)) (some (gC q.gaps)))
def eY (x_ : ak) : Option (List UInt8) :=
 (Option.bind (eb [] [4, x_.sink, x_.seq]) fun z9 => (some z9))
def cv (q : a6) (z4 : List UInt8) (z20 : af × a7 × Int) (o36 : a7) : Option (a6 × a7 × Int) :=
 (Option.bind (aW z4) fun z50 => (am.el z50.1
 ((Option.bind (cG (⟨q.c_self, q.c_sites, q.c_links, q.c_cap, q.c_base, q.c_members, z20.1, q.applied, q.under, q.list, q.next, q.gaps, q.members⟩ : a6)) fun z68 => (some ((⟨q.c_self, q.c_sites, q.c_links, q.c_cap, q.c_base, q.c_members, z20.1, q.applied, q.under, q.list, q.next, q.gaps, q.members⟩ : a6), o36, 0))))
 (fun o57 =>
 (Option.bind (aT (⟨q.c_self, q.c_sites, q.c_links, q.c_cap, q.c_base, q.c_members, z20.1, q.applied, q.under, q.list, q.next, q.gaps, q.members⟩ : a6) o57) fun z74 => (some (z74, o36, 0))))
 (fun o57 =>
 (Option.bind (aM (⟨q.c_self, q.c_sites, q.c_links, q.c_cap, q.c_base, q.c_members, z20.1, q.applied, q.under, q.list, q.next, q.gaps, q.members⟩ : a6) o57) fun z82 => (some (z82, o36, 0))))
 (fun o57 =>
 (Option.bind (aL (⟨q.c_self, q.c_sites, q.c_links, q.c_cap, q.c_base, q.c_members, z20.1, q.applied, q.under, q.list, q.next, q.gaps, q.members⟩ : a6) o57) fun z90 => (some (z90, o36, 0))))
 (fun o57 =>
 (Option.bind (b7 (⟨q.c_self, q.c_sites, q.c_links, q.c_cap, q.c_base, q.c_members, z20.1, q.applied, q.under, q.list, q.next, q.gaps, q.members⟩ : a6) o57) fun z98 => (some (z98, o36, 0))))))
def d8 (q : a6) (x_ : ak) (sync : Bool) (dk0 : a7) : Option (a6 × a7 × Int) :=
 (Option.bind (bx q x_) fun z1 => (bif (!z1) then
 (some (q, dk0, 1))
 else
 (Option.bind (eY x_) fun z4 => (Option.bind (b4 q.log z4 dk0) fun z20 => (bif (z20.2.2 != 0) then
 (some ((⟨q.c_self, q.c_sites, q.c_links, q.c_cap, q.c_base, q.c_members, z20.1, q.applied, q.under, q.list, q.next, q.gaps, q.members⟩ : a6), z20.2.1, z20.2.2))
 else
 (bif sync then
 (Option.bind (cc ((⟨q.c_self, q.c_sites, q.c_links, q.c_cap, q.c_base, q.c_members, z20.1, q.applied, q.under, q.list, q.next, q.gaps, q.members⟩ : a6).log) z20.2.1) fun z41 => (cv q z4 z20 z41))
 else
 (cv q z4 z20 z20.2.1)))))))
def jD (q : a6) (sink : Int) (seq : Int) (dk0 : a7) (f3 : Unit → Option (a6 × a7 × Bool)) (i4 : Nat) : Unit → Option (a6 × a7 × Bool) := fun _ =>
 (bif (((gt q.list i4).entry.seq == seq) && ((mget sink ((gt q.list i4).want)).getD false)) then
 (Option.bind (d8 q (⟨sink, seq⟩ : ak) false dk0) fun z21 => (some (z21.1, z21.2.1, (z21.2.2 == 0))))
 else
 (f3 ()))
def da (q : a6) (sink : Int) (seq : Int) (dk0 : a7) : Option (a6 × a7 × Bool) :=
 (forU (jD q sink seq dk0) (fun _ =>
 (some (q, dk0, false))) q.list.length 0 ())
def iF (q : a6) : Option Int :=
 (some (q.list.length : Int))
def eW (x_ : au) : Option (List UInt8) :=
 (Option.bind (eb [] [5, x_.sink]) fun z9 => (some z9))
def cw (q : a6) (z4 : List UInt8) (z20 : af × a7 × Int) (o36 : a7) : Option (a6 × a7 × Int) :=
 (Option.bind (aW z4) fun z50 => (am.el z50.1
 ((Option.bind (cG (⟨q.c_self, q.c_sites, q.c_links, q.c_cap, q.c_base, q.c_members, z20.1, q.applied, q.under, q.list, q.next, q.gaps, q.members⟩ : a6)) fun z68 => (some ((⟨q.c_self, q.c_sites, q.c_links, q.c_cap, q.c_base, q.c_members, z20.1, q.applied, q.under, q.list, q.next, q.gaps, q.members⟩ : a6), o36, 0))))
 (fun o57 =>
 (Option.bind (aT (⟨q.c_self, q.c_sites, q.c_links, q.c_cap, q.c_base, q.c_members, z20.1, q.applied, q.under, q.list, q.next, q.gaps, q.members⟩ : a6) o57) fun z74 => (some (z74, o36, 0))))
 (fun o57 =>
 (Option.bind (aM (⟨q.c_self, q.c_sites, q.c_links, q.c_cap, q.c_base, q.c_members, z20.1, q.applied, q.under, q.list, q.next, q.gaps, q.members⟩ : a6) o57) fun z82 => (some (z82, o36, 0))))
 (fun o57 =>
 (Option.bind (aL (⟨q.c_self, q.c_sites, q.c_links, q.c_cap, q.c_base, q.c_members, z20.1, q.applied, q.under, q.list, q.next, q.gaps, q.members⟩ : a6) o57) fun z90 => (some (z90, o36, 0))))
 (fun o57 =>
 (Option.bind (b7 (⟨q.c_self, q.c_sites, q.c_links, q.c_cap, q.c_base, q.c_members, z20.1, q.applied, q.under, q.list, q.next, q.gaps, q.members⟩ : a6) o57) fun z98 => (some (z98, o36, 0))))))
def d6 (q : a6) (x_ : au) (sync : Bool) (dk0 : a7) : Option (a6 × a7 × Int) :=
 (Option.bind (bw q x_) fun z1 => (bif (!z1) then
 (some (q, dk0, 1))
 else
 (Option.bind (eW x_) fun z4 => (Option.bind (b4 q.log z4 dk0) fun z20 => (bif (z20.2.2 != 0) then
 (some ((⟨q.c_self, q.c_sites, q.c_links, q.c_cap, q.c_base, q.c_members, z20.1, q.applied, q.under, q.list, q.next, q.gaps, q.members⟩ : a6), z20.2.1, z20.2.2))
 else
 (bif sync then
 (Option.bind (cc ((⟨q.c_self, q.c_sites, q.c_links, q.c_cap, q.c_base, q.c_members, z20.1, q.applied, q.under, q.list, q.next, q.gaps, q.members⟩ : a6).log) z20.2.1) fun z41 => (cw q z4 z20 z41))
 else
 (cw q z4 z20 z20.2.1)))))))
def dg (q : a6) (sink : Int) (dk0 : a7) : Option (a6 × a7 × Int) :=
 (bif (!((mget sink q.gaps).getD false)) then
 (some (q, dk0, 0))
 else
 (Option.bind (d6 q (⟨sink⟩ : au) true dk0) fun z8 => (some (z8.1, z8.2.1, z8.2.2))))
def gI (s_ : List Int) : Option (List Int) :=
 (nilc s_.isEmpty (
 (some []))
 ((chk (decide (0 + s_.length ≤ lim)) (some (([] : List Int) ++ s_)))))
def j5 (q : a6) : Option (List Int) :=
 (Option.bind (gI q.applied) fun z2 => (some z2))
def mr (b : List Int) (f2 : Unit → Option Bool) (i3 : Nat) (ei3 : Int) : Unit → Option Bool := fun _ =>
 (chk (decide (i3 < b.length)) (bif (ei3 != (gt b i3)) then
 (some false)
 else
 (f2 ())))
def kO (a : List Int) (b : List Int) : Option Bool :=
 (bif ((a.length : Int) != (b.length : Int)) then
 (some false)
 else
 (forI (mr b) (fun _ =>
 (some true)) 0 a ()))
def dw  : Option Bool :=
 (Option.bind (kw 9000) fun z1 => (Option.bind (la) fun z10 => (Option.bind (ea z1 256 z10) fun z21 => (bif ((Option.isNone z21.2.1) || (z21.2.2 != 0)) then
 (some false)
 else
 (Option.bind z21.2.1 fun z36 => (Option.bind (bX z36 (⟨#[107]⟩ : ByteArray) [] false (⟨#[118]⟩ : ByteArray) z21.1) fun z39 => (Option.bind (bX z39.1 (⟨#[107]⟩ : ByteArray) [] false (⟨#[118]⟩ : ByteArray) z39.2.1) fun z54 => (Option.bind (bF z54.1) fun z69 => (bif (!((((z39.2.2.2 != 0) || (z54.2.2.2 != 202)) || (!z69.2)) || (z39.2.2.1.dot != (⟨1, 1⟩ : Dot)))) then
 (Option.bind (d7 z54.1 z69.1 [1] z54.2.1) fun z97 => (bif (!(z97.2.2 != 0)) then
 (Option.bind (dG z97.1 2 9) fun z110 => (bif ((z110.length : Int) != 1) then
 (some false)
 else
 (Option.bind (bX z97.1 (⟨#[108]⟩ : ByteArray) [] false (⟨#[118]⟩ : ByteArray) z97.2.1) fun z121 => (Option.bind (bF z121.1) fun z135 => (Option.bind (d7 z121.1 z135.1 [1] z121.2.1) fun z151 => (Option.bind (bL z151.1) fun z162 => (bif ((z151.2.2 == 0) && ((z162.length : Int) == 1)) then
 (Option.bind (da z151.1 2 2 z151.2.1) fun z176 => (bif z176.2.2 then
 (Option.bind (iF z176.1) fun z188 => (bif (z188 == 0) then
 (Option.bind (dg z176.1 2 z176.2.1) fun z197 => (bif (z197.2.2 == 0) then
 (Option.bind (bL z197.1) fun z210 => (bif ((z210.length : Int) == 0) then
 (Option.bind (j5 z197.1) fun z222 => (Option.bind (kO z222 [2, 0]) fun z234 => (some z234)))
 else
 (some false)))
 else
 (some false)))
 else
 (some false)))
 else
 (some false)))
 else
 (some false))))))))
 else
 (some false)))
 else
 (some false))))))))))
def kN (c_ : aa) : Option aE :=
 (some (⟨c_.self, c_.sites, c_.links, c_.cap, c_.base, c_.members⟩ : aE))
def iZ (members : List Int) (f5 : Unit → Option Bool) (i6 : Nat) (ei6 : Int) : Unit → Option Bool := fun _ =>
 (bif ((decide (ei6 < 1)) || (decide (8 < ei6))) then
 (some false)
 else
 (chk (imp (decide (0 < (i6 : Int))) (inb (w64 ((i6 : Int) - 1)) members.length)) (bif ((decide (0 < (i6 : Int))) && (decide (ei6 ≤ (gt members ((w64 ((i6 : Int) - 1)).toNat))))) then
 (some false)
 else
 (f5 ()))))
def fw (members : List Int) : Option Bool :=
 (bif ((decide ((members.length : Int) < 1)) || (decide (8 < (members.length : Int)))) then
 (some false)
 else
 (forI (iZ members) (fun _ =>
 (some true)) 0 members ()))
def iY (c_ : aE) (f32 : Unit → Option Bool) (i33 : Nat) (ei33 : Int) : Unit → Option Bool := fun _ =>
 (chk (imp ((!(((decide (ei33 < 1)) || (decide (c_.sites < ei33))) || (ei33 == c_.self))) && (decide (0 < (i33 : Int)))) (inb (w64 ((i33 : Int) - 1)) c_.links.length)) (bif ((((decide (ei33 < 1)) || (decide (c_.sites < ei33))) || (ei33 == c_.self)) || ((decide (0 < (i33 : Int))) && (decide (ei33 ≤ (gt c_.links ((w64 ((i33 : Int) - 1)).toNat)))))) then
 (some false)
 else
 (f32 ())))
def dL (c_ : aE) : Option Bool :=
 (Option.bind (dM (!((((((((decide (c_.sites < 1)) || (decide (16 < c_.sites))) || (decide (c_.self < 1))) || (decide (c_.sites < c_.self))) || (decide (c_.cap < 1))) || (decide (65536 < c_.cap))) || (decide (c_.base < 0))) || (decide (4611686018427387904 < c_.base)))) (fw c_.members)) fun z28 => (bif (((((((((decide (c_.sites < 1)) || (decide (16 < c_.sites))) || (decide (c_.self < 1))) || (decide (c_.sites < c_.self))) || (decide (c_.cap < 1))) || (decide (65536 < c_.cap))) || (decide (c_.base < 0))) || (decide (4611686018427387904 < c_.base))) || (!z28)) then
 (some false)
 else
 (forI (iY c_) (fun _ =>
 (some true)) 0 c_.links ())))
def cZ (d : a7) (m42 : List (ByteArray × (List UInt8))) : Option a7 :=
 (some (⟨d.room, m42, m42, []⟩ : a7))
def jw (f13 : List (ByteArray × (List UInt8)) → Option a7) (i14 : Nat) (ei14 : aw) : List (ByteArray × (List UInt8)) → Option a7 := fun m10 =>
 (Option.bind (cy (ei14.do_) m10) fun z27 => (f13 z27))
def gh (d : a7) (keep : Int) (torn : Int) : Option a7 :=
 (chk (inle (min (max keep 0) (d.loose.length : Int)) d.loose.length) (forI (jw) (fun m10 =>
 (bif (decide ((min (max keep 0) (d.loose.length : Int)) < (d.loose.length : Int))) then
 (chk (inb (min (max keep 0) (d.loose.length : Int)) d.loose.length) (bif (decide (0 < (min (max torn 0) ((((gt d.loose ((min (max keep 0) (d.loose.length : Int)).toNat)).tail).length : Nat) : Int)))) then
 (chk (inle (min (max torn 0) ((((gt d.loose ((min (max keep 0) (d.loose.length : Int)).toNat)).tail).length : Nat) : Int)) (((gt d.loose ((min (max keep 0) (d.loose.length : Int)).toNat)).tail).length)) (Option.bind (kd ((gt d.loose ((min (max keep 0) (d.loose.length : Int)).toNat)).name) (List.take ((min (max torn 0) ((((gt d.loose ((min (max keep 0) (d.loose.length : Int)).toNat)).tail).length : Nat) : Int)).toNat) ((gt d.loose ((min (max keep 0) (d.loose.length : Int)).toNat)).tail))) fun z56 => (Option.bind (cy z56 m10) fun z65 => (cZ d z65))))
 else
 (cZ d m10)))
 else
 (cZ d m10))) 0 (List.take ((min (max keep 0) (d.loose.length : Int)).toNat) d.loose) d.safe_))
def dS (f69 : a7 × a6 → Option Bool) (o78 : a7) (o81 : a6) : Option Bool :=
 (f69 (o78, o81))
def gW (c_ : aa) (acked : Int) (f232 : a6 × a7 → Option Bool) (i233 : Nat) (ei233 : Int) : a6 × a7 → Option Bool := fun (o226, o229) =>
 (bif (!(ei233 == (gt c_.links (((w64 acked).tmod (c_.links.length : Int)).toNat)))) then
 (Option.bind (dg o226 ei233 o229) fun z245 => (bif (z245.2.2 != 0) then
 (some false)
 else
 (f232 (z245.1, z245.2.1))))
 else
 (some false))
def bW (c_ : aa) (acked : Int) (z192 : a7 × (Option a6) × Int) (z207 : a6) (z210 : List Int) (want_220 : Int) : Option Bool :=
 (bif ((z210.length : Int) != want_220) then
 (some false)
 else
 (forI (gW c_ acked) (fun (o226, o229) =>
 (Option.bind (ea o229 4096 c_) fun z257 => (bif ((z257.2.2 == 0) && (!(Option.isNone z257.2.1))) then
 (Option.bind z257.2.1 fun z273 => (Option.bind (bL z273) fun z276 => (some ((z276.length : Int) == 0))))
 else
 (some false)))) 0 z210 (z207, z192.1)))
def dU (c_ : aa) (acked : Int) (f69 : a7 × a6 → Option Bool) (i70 : Nat) : a7 × a6 → Option Bool := fun (o63, o66) =>
 (Option.bind (bX o66 (⟨#[107]⟩ : ByteArray) [] false (⟨#[118]⟩ : ByteArray) o63) fun z84 => (Option.bind (bF z84.1) fun z99 => (bif (!((z84.2.2.2 != 0) || (!z99.2))) then
 (Option.bind (d7 z84.1 z99.1 [c_.self] z84.2.1) fun z124 => (bif (!(z124.2.2 != 0)) then
 (Option.bind (iF z124.1) fun z140 => (bif (decide (c_.cap < z140)) then
 (some false)
 else
 (Option.bind (dG z124.1 (gt c_.links (((w64 acked).tmod (c_.links.length : Int)).toNat)) 1) fun z149 => (bif ((z149.length : Int) == 1) then
 (chk (decide (0 < z149.length)) (Option.bind (da z124.1 (gt c_.links (((w64 acked).tmod (c_.links.length : Int)).toNat)) ((gt z149 0).seq) z124.2.1) fun z166 => (dS f69 z166.2.1 z166.1)))
 else
 (dS f69 z124.2.1 z124.1)))))
 else
 (some false)))
 else
 (some false))))
def fo (c_ : aa) (n : Int) (acked : Int) : Option Bool :=
 (Option.bind (dw) fun z2 => (bif (!(!z2)) then
 (Option.bind (kN c_) fun z6 => (Option.bind (dL z6) fun z17 => (bif ((((!z17) || (decide (60 < c_.cap))) || (decide (2305843009213693952 < c_.base))) || ((c_.links.length : Int) == 0)) then
 (Option.bind (dw) fun z30 => (some z30))
 else
 (Option.bind (kw 16777216) fun z32 => (Option.bind (ea z32 4096 c_) fun z41 => (bif ((Option.isNone z41.2.1) || (z41.2.2 != 0)) then
 (some false)
 else
 (Option.bind z41.2.1 fun z56 => (chk ((c_.links.length : Int) != 0) (chk (inb ((w64 acked).tmod (c_.links.length : Int)) c_.links.length) (forU (dU c_ acked) (fun (o63, o66) =>
 (Option.bind (eU o63) fun z176 => (Option.bind (gh z176 0 0) fun z184 => (Option.bind (ea z184 4096 c_) fun z192 => (bif ((Option.isNone z192.2.1) || (z192.2.2 != 0)) then
 (some false)
 else
 (Option.bind z192.2.1 fun z207 => (Option.bind (bL z207) fun z210 => (bif (decide ((w64 (n.tmod 90)) ≤ c_.cap)) then
 (bW c_ acked z192 z207 z210 0)
 else
 (bW c_ acked z192 z207 z210 (w64 ((c_.links.length : Int) - 1))))))))))) ((w64 (n.tmod 90)).toNat) 0 (z41.1, z56)))))))))))
 else
 (Option.bind (dw) fun z286 => (some z286))))
end Fw
end Go.Proofs.YtlfmppjcgaekhaaGreat
