/- What the functions compute, as Lean functions (printed by a program). No condition. -/
import Derived.Test.YtlgahohnbkkoiaaE
import Derived.Test.YtlgahohnbkkoiaaK14
import Derived.Test.YtlgahohnbkkoiaaK15
import Derived.Test.YtlgahohnbkkoiaaK18
import Derived.Test.YtlgahohnbkkoiaaK19
import Derived.Test.YtlgahohnbkkoiaaK27
import Derived.Test.YtlgahohnbkkoiaaK28
import Derived.Test.YtlgahohnbkkoiaaK29
import Derived.Test.YtlgahohnbkkoiaaK30
import Derived.Test.YtlgahohnbkkoiaaK31
namespace Go.Proofs.Ytlgahohnbkkoiaa
namespace Fw
set_option linter.unusedVariables false
set_option linter.unusedSimpArgs false
set_option linter.unusedSectionVars false
open Go.RowKit
structure Oquorum_asking_bool where
  list : (List Int)
  need : Int
  got : (List (Int × Bool))
  deriving Inhabited, DecidableEq
structure Oquorum_asking_api_Ver where
  list : (List Int)
  need : Int
  got : (List (Int × (List Ver)))
  deriving Inhabited, DecidableEq
structure Oquorum_asking_api_Rec where
  list : (List Int)
  need : Int
  got : (List (Int × (List Rec)))
  deriving Inhabited, DecidableEq
def m_slices_Index_int_int_b1 (v_ : Int) (f1 : Unit → Option Int) (i2 : Nat) (ei2 : Int) : Unit → Option Int := fun _ =>
 (bif (v_ == ei2) then
 (some ((i2 : Nat) : Int))
 else
 (f1 ()))
def m_slices_Index_int_int (s_ : List Int) (v_ : Int) : Option Int :=
 (forI (m_slices_Index_int_int_b1 v_) (fun _ =>
 (some (-1))) 0 s_ ())
def m_slices_Contains_int_int (s_ : List Int) (v_ : Int) : Option Bool :=
 (Option.bind (m_slices_Index_int_int s_ v_) fun z1 => (some (decide (0 ≤ z1))))
def m_slices_Clone_int_int (s_ : List Int) : Option (List Int) :=
 (nilc s_.isEmpty (
 (some []))
 ((chk (decide (0 + s_.length ≤ lim)) (some (([] : List Int) ++ s_)))))
def m_quorum_ask_bool_b1 (list : List Int) (f12 : Unit → Option ((Option Oquorum_asking_bool) × Int)) (i13 : Nat) (ei13 : Int) : Unit → Option ((Option Oquorum_asking_bool) × Int) := fun _ =>
 (Option.bind (gcall (!((decide (ei13 < 1)) || (decide (8 < ei13)))) (m_slices_Contains_int_int (List.take i13 list) ei13)) fun z26 => (bif (((decide (ei13 < 1)) || (decide (8 < ei13))) || z26) then
 (some (none, 1))
 else
 (f12 ())))
def m_quorum_ask_bool (list : List Int) (need : Int) : Option ((Option Oquorum_asking_bool) × Int) :=
 (bif ((((decide (((list.length : Nat) : Int) < 1)) || (decide (8 < ((list.length : Nat) : Int)))) || (decide (need < 1))) || (decide (((list.length : Nat) : Int) < need))) then
 (some (none, 1))
 else
 (forI (m_quorum_ask_bool_b1 list) (fun _ =>
 (Option.bind (m_slices_Clone_int_int list) fun z29 => (some ((some (⟨z29, need, ([] : List (Int × Bool))⟩ : Oquorum_asking_bool)), 0)))) 0 list ()))
def m_quorum_NewWrite (list : List Int) (need : Int) : Option ((Option Oquorum_asking_bool) × Int) :=
 (Option.bind (m_quorum_ask_bool list need) fun z1 => (optm z1.1
 ((bif (z1.2 != 0) then
 (some (none, z1.2))
 else
 none))
 fun o8 =>
 (bif (z1.2 != 0) then
 (some (none, z1.2))
 else
 (some ((some (⟨o8.list, o8.need, o8.got⟩ : Oquorum_asking_bool)), z1.2)))))
def m_quorum_asking_bool_count (a : Oquorum_asking_bool) (node : Int) (x_ : Bool) : Option (Oquorum_asking_bool × Bool) :=
 (Option.bind (gcall (!((mget node a.got).isSome)) (m_slices_Contains_int_int a.list node)) fun z11 => (bif (((mget node a.got).isSome) || (!z11)) then
 (some (a, false))
 else
 (some ((⟨a.list, a.need, (mput node x_ a.got)⟩ : Oquorum_asking_bool), true))))
def m_quorum_Write_Ack (w_ : Oquorum_asking_bool) (node : Int) : Option (Oquorum_asking_bool × Bool) :=
 (Option.bind (m_quorum_asking_bool_count w_ node true) fun z1 => (some (z1.1, z1.2)))
def m_quorum_asking_bool_Done (a : Oquorum_asking_bool) : Option Bool :=
 (some (decide (a.need ≤ ((a.got.length : Nat) : Int))))
def m_quorum_Write_Done (w_ : Oquorum_asking_bool) : Option Bool :=
 (Option.bind (m_quorum_asking_bool_Done w_) fun z1 => (some z1))
def m_quorum_asking_bool_Waits_j5 (f8 : List Int → Option (List Int)) (out_15 : List Int) : Option (List Int) :=
 (f8 out_15)
def m_quorum_asking_bool_Waits_b4 (a : Oquorum_asking_bool) (f8 : List Int → Option (List Int)) (i9 : Nat) (ei9 : Int) : List Int → Option (List Int) := fun out_3 =>
 (bif (!((mget ei9 a.got).isSome)) then
 (chk (decide (out_3.length + 1 ≤ lim)) (m_quorum_asking_bool_Waits_j5 f8 (out_3 ++ [ei9])))
 else
 (m_quorum_asking_bool_Waits_j5 f8 out_3))
def m_quorum_asking_bool_Waits (a : Oquorum_asking_bool) : Option (List Int) :=
 (forI (m_quorum_asking_bool_Waits_b4 a) (fun out_3 =>
 (some out_3)) 0 a.list [])
def m_quorum_Write_Waits (w_ : Oquorum_asking_bool) : Option (List Int) :=
 (Option.bind (m_quorum_asking_bool_Waits w_) fun z1 => (some z1))
def m_quorum_ask_api_Ver_b1 (list : List Int) (f12 : Unit → Option ((Option Oquorum_asking_api_Ver) × Int)) (i13 : Nat) (ei13 : Int) : Unit → Option ((Option Oquorum_asking_api_Ver) × Int) := fun _ =>
 (Option.bind (gcall (!((decide (ei13 < 1)) || (decide (8 < ei13)))) (m_slices_Contains_int_int (List.take i13 list) ei13)) fun z26 => (bif (((decide (ei13 < 1)) || (decide (8 < ei13))) || z26) then
 (some (none, 1))
 else
 (f12 ())))
def m_quorum_ask_api_Ver (list : List Int) (need : Int) : Option ((Option Oquorum_asking_api_Ver) × Int) :=
 (bif ((((decide (((list.length : Nat) : Int) < 1)) || (decide (8 < ((list.length : Nat) : Int)))) || (decide (need < 1))) || (decide (((list.length : Nat) : Int) < need))) then
 (some (none, 1))
 else
 (forI (m_quorum_ask_api_Ver_b1 list) (fun _ =>
 (Option.bind (m_slices_Clone_int_int list) fun z29 => (some ((some (⟨z29, need, ([] : List (Int × (List Ver)))⟩ : Oquorum_asking_api_Ver)), 0)))) 0 list ()))
def m_quorum_NewRead (list : List Int) (need : Int) : Option ((Option Oquorum_asking_api_Ver) × Int) :=
 (Option.bind (m_quorum_ask_api_Ver list need) fun z1 => (optm z1.1
 ((bif (z1.2 != 0) then
 (some (none, z1.2))
 else
 none))
 fun o8 =>
 (bif (z1.2 != 0) then
 (some (none, z1.2))
 else
 (some ((some (⟨o8.list, o8.need, o8.got⟩ : Oquorum_asking_api_Ver)), z1.2)))))
def m_span_Right_b1 (f4 : Span → Option Bool) (i5 : Nat) (ei5 : Span) : Span → Option Bool := fun x2 =>
 (bif (((((((decide (ei5.s < 1)) || (decide (16 < ei5.s))) || (decide (ei5.f < 1))) || (decide (ei5.t < ei5.f))) || (decide (4611686018427387904 < ei5.t))) || (decide (ei5.s < x2.s))) || ((ei5.s == x2.s) && (decide (ei5.f ≤ (w64 (x2.t + 1)))))) then
 (some false)
 else
 (f4 ei5))
def m_span_Right (l : List Span) : Option Bool :=
 (forI (m_span_Right_b1) (fun x2 =>
 (some (decide (((l.length : Nat) : Int) ≤ 1024)))) 0 l (⟨0, 0, 0⟩ : Span))
def m_span_Top_j6 (f3 : Int → Option Int) (top_10 : Int) : Option Int :=
 (f3 top_10)
def m_span_Top_b5 (s_ : Int) (f3 : Int → Option Int) (i4 : Nat) (ei4 : Span) : Int → Option Int := fun top_1 =>
 (bif (ei4.s == s_) then
 (m_span_Top_j6 f3 (max top_1 ei4.t))
 else
 (m_span_Top_j6 f3 top_1))
def m_span_Top (l : List Span) (s_ : Int) : Option Int :=
 (forI (m_span_Top_b5 s_) (fun top_1 =>
 (some top_1)) 0 l 0)
def m_vers_RightOne (v_ : Ver) : Option Bool :=
 (Option.bind (m_span_Right [(⟨v_.dot.s, v_.dot.n, v_.dot.n⟩ : Span)]) fun z6 => (Option.bind (gcall z6 (m_span_Right v_.past)) fun z11 => (Option.bind (gcall (z6 && z11) (m_span_Top v_.past v_.dot.s)) fun z22 => (some ((((z6 && z11) && (decide (z22 < v_.dot.n))) && (decide (((v_.val.size : Nat) : Int) ≤ 256))) && ((!v_.gone) || (v_.val == ByteArray.empty)))))))
def m_vers_before (a : Dot) (b : Dot) : Option Bool :=
 (some ((decide (a.s < b.s)) || ((a.s == b.s) && (decide (a.n < b.n)))))
def m_span_Has_b1 (d : Dot) (f2 : Unit → Option Bool) (i3 : Nat) (ei3 : Span) : Unit → Option Bool := fun _ =>
 (bif (((ei3.s == d.s) && (decide (ei3.f ≤ d.n))) && (decide (d.n ≤ ei3.t))) then
 (some true)
 else
 (f2 ()))
def m_span_Has (l : List Span) (d : Dot) : Option Bool :=
 (forI (m_span_Has_b1 d) (fun _ =>
 (some false)) 0 l ())
def m_vers_behind_b1 (d : Dot) (f2 : Unit → Option Bool) (i3 : Nat) (ei3 : Ver) : Unit → Option Bool := fun _ =>
 (Option.bind (m_span_Has (ei3.past) d) fun z13 => (bif z13 then
 (some true)
 else
 (f2 ())))
def m_vers_behind (d : Dot) (l : List Ver) : Option Bool :=
 (forI (m_vers_behind_b1 d) (fun _ =>
 (some false)) 0 l ())
def m_vers_Right_b1 (l : List Ver) (f1 : Unit → Option Bool) (i2 : Nat) (ei2 : Ver) : Unit → Option Bool := fun _ =>
 (Option.bind (m_vers_RightOne ei2) fun z12 => (chk (imp ((!(!z12)) && (decide (0 < ((i2 : Nat) : Int)))) (inb (w64 (((i2 : Nat) : Int) - 1)) l.length)) (Option.bind (gcall ((!(!z12)) && (decide (0 < ((i2 : Nat) : Int)))) (m_vers_before ((gt l ((w64 (((i2 : Nat) : Int) - 1)).toNat)).dot) (ei2.dot))) fun z30 => (Option.bind (gcall (!((!z12) || ((decide (0 < ((i2 : Nat) : Int))) && (!z30)))) (m_vers_behind (ei2.dot) l)) fun z38 => (bif (((!z12) || ((decide (0 < ((i2 : Nat) : Int))) && (!z30))) || z38) then
 (some false)
 else
 (f1 ()))))))
def m_vers_Right (l : List Ver) : Option Bool :=
 (forI (m_vers_Right_b1 l) (fun _ =>
 (some (decide (((l.length : Nat) : Int) ≤ 512)))) 0 l ())
def m_vers_clone_api_Span (l : List Span) : Option (List Span) :=
 (chk (decide (0 + l.length ≤ lim)) (some l))
def m_vers_Merge_1 (v_ : Ver) (b0v : List Ver) (b1v : List Ver) (b2v : List Ver) : Option (List Ver) :=
 (Option.bind (m_vers_behind v_.dot b0v) fun z2 => (Option.bind (gcall (!z2) (m_vers_behind v_.dot b1v)) fun z8 => (bif ((!z2) && (!z8)) then
 (Option.bind (m_vers_clone_api_Span v_.past) fun z12 => (chk (decide (b2v.length + 1 ≤ lim)) (some (b2v ++ [(⟨(⟨v_.dot.s, v_.dot.n⟩ : Dot), z12, v_.gone, v_.val⟩ : Ver)]))))
 else
 (some b2v))))
def m_vers_same_b1 (b : Ver) (f21 : Unit → Option Bool) (i22 : Nat) (ei22 : Span) : Unit → Option Bool := fun _ =>
 (chk (decide (i22 < b.past.length)) (bif (ei22 != (gt b.past i22)) then
 (some false)
 else
 (f21 ())))
def m_vers_same (a : Ver) (b : Ver) : Option Bool :=
 (bif ((((a.dot != b.dot) || (a.gone != b.gone)) || (a.val != b.val)) || (((a.past.length : Nat) : Int) != ((b.past.length : Nat) : Int))) then
 (some false)
 else
 (forI (m_vers_same_b1 b) (fun _ =>
 (some true)) 0 a.past ()))
def m_vers_Merge_b1 (a : List Ver) (b : List Ver) (f24 : Bool × Int × Int × (List Ver) → Option ((List Ver) × Int)) : Bool × Int × Int × (List Ver) → Option ((List Ver) × Int) := fun (twin_14, i_15, k_17, x19) =>
 (bif ((decide (i_15 < ((a.length : Nat) : Int))) || (decide (k_17 < ((b.length : Nat) : Int)))) then
 (chk (imp ((!(k_17 == ((b.length : Nat) : Int))) && (decide (i_15 < ((a.length : Nat) : Int)))) (inb i_15 a.length)) (chk (imp ((!(k_17 == ((b.length : Nat) : Int))) && (decide (i_15 < ((a.length : Nat) : Int)))) (inb k_17 b.length)) (Option.bind (gcall ((!(k_17 == ((b.length : Nat) : Int))) && (decide (i_15 < ((a.length : Nat) : Int)))) (m_vers_before ((gt a i_15.toNat).dot) ((gt b k_17.toNat).dot))) fun z57 => (bif ((k_17 == ((b.length : Nat) : Int)) || ((decide (i_15 < ((a.length : Nat) : Int))) && z57)) then
 (chk (inb i_15 a.length) (Option.bind (m_vers_Merge_1 (gt a i_15.toNat) a b x19) fun z62 => (f24 (twin_14, (w64 (i_15 + 1)), k_17, z62))))
 else
 (chk (imp (decide (i_15 < ((a.length : Nat) : Int))) (inb i_15 a.length)) (chk (imp (decide (i_15 < ((a.length : Nat) : Int))) (inb k_17 b.length)) (bif ((decide (i_15 < ((a.length : Nat) : Int))) && ((gt a i_15.toNat).dot == (gt b k_17.toNat).dot)) then
 (chk (imp (!twin_14) (inb i_15 a.length)) (chk (imp (!twin_14) (inb k_17 b.length)) (Option.bind (gcall (!twin_14) (m_vers_same (gt a i_15.toNat) (gt b k_17.toNat))) fun z97 => (f24 ((twin_14 || (!z97)), (w64 (i_15 + 1)), k_17, x19)))))
 else
 (chk (inb k_17 b.length) (Option.bind (m_vers_Merge_1 (gt b k_17.toNat) a b x19) fun z101 => (f24 (twin_14, i_15, (w64 (k_17 + 1)), z101)))))))))))
 else
 (bif twin_14 then
 (some ([], 50))
 else
 (bif (decide (512 < ((x19.length : Nat) : Int))) then
 (some ([], 3))
 else
 (some (x19, 0)))))
def m_vers_Merge (a : List Ver) (b : List Ver) : Option ((List Ver) × Int) :=
 (Option.bind (m_vers_Right a) fun z3 => (Option.bind (gcall (!(!z3)) (m_vers_Right b)) fun z7 => (bif ((!z3) || (!z7)) then
 (some ([], 1))
 else
 (loopN (m_vers_Merge_b1 a b) FU (false, 0, 0, [])))))
def m_quorum_asking_api_Ver_count (a : Oquorum_asking_api_Ver) (node : Int) (x_ : List Ver) : Option (Oquorum_asking_api_Ver × Bool) :=
 (Option.bind (gcall (!((mget node a.got).isSome)) (m_slices_Contains_int_int a.list node)) fun z15 => (bif (((mget node a.got).isSome) || (!z15)) then
 (some (a, false))
 else
 (some ((⟨a.list, a.need, (mput node x_ a.got)⟩ : Oquorum_asking_api_Ver), true))))
def m_quorum_Read_Got (r_ : Oquorum_asking_api_Ver) (node : Int) (l : List Ver) : Option (Oquorum_asking_api_Ver × Bool) :=
 (Option.bind (m_vers_Merge l []) fun z1 => (bif (z1.2 == 0) then
 (Option.bind (m_quorum_asking_api_Ver_count r_ node z1.1) fun z23 => (some (z23.1, z23.2)))
 else
 (some (r_, false))))
def m_quorum_Read_Vers_j6 (f10 : List Ver → Option (List Ver)) (out_19 : List Ver) : Option (List Ver) :=
 (f10 out_19)
def m_quorum_Read_Vers_b5 (r_ : Oquorum_asking_api_Ver) (f10 : List Ver → Option (List Ver)) (i11 : Nat) (ei11 : Int) : List Ver → Option (List Ver) := fun out_5 =>
 (Option.bind (m_vers_Merge out_5 ((mget ei11 r_.got).getD [])) fun z32 => (bif (z32.2 == 0) then
 (m_quorum_Read_Vers_j6 f10 z32.1)
 else
 (m_quorum_Read_Vers_j6 f10 out_5)))
def m_quorum_Read_Vers (r_ : Oquorum_asking_api_Ver) : Option (List Ver) :=
 (forI (m_quorum_Read_Vers_b5 r_) (fun out_5 =>
 (some out_5)) 0 r_.list [])
def m_vers_Same_b1 (a : List Ver) (b : List Ver) (f1 : Unit → Option Bool) (i2 : Nat) : Unit → Option Bool := fun _ =>
 (chk (decide (i2 < a.length)) (chk (decide (i2 < b.length)) (Option.bind (m_vers_same (gt a i2) (gt b i2)) fun z16 => (bif (!z16) then
 (some false)
 else
 (f1 ())))))
def m_vers_Same (a : List Ver) (b : List Ver) : Option Bool :=
 (forU (m_vers_Same_b1 a b) (fun _ =>
 (some (((a.length : Nat) : Int) == ((b.length : Nat) : Int)))) ((min ((a.length : Nat) : Int) ((b.length : Nat) : Int)).toNat) 0 ())
def m_vers_Lacks (a : List Ver) (b : List Ver) : Option Bool :=
 (Option.bind (m_vers_Merge a b) fun z1 => (Option.bind (gcall (z1.2 == 0) (m_vers_Same z1.1 a)) fun z15 => (some ((z1.2 == 0) && (!z15)))))
def m_quorum_Read_Behind_j5 (f18 : List Int → Option (List Int)) (out_25 : List Int) : Option (List Int) :=
 (f18 out_25)
def m_quorum_Read_Behind_b4 (r_ : Oquorum_asking_api_Ver) (z1 : List Ver) (f18 : List Int → Option (List Int)) (i19 : Nat) (ei19 : Int) : List Int → Option (List Int) := fun out_13 =>
 (Option.bind (gcall ((mget ei19 r_.got).isSome) (m_vers_Lacks ((mget ei19 r_.got).getD []) z1)) fun z41 => (bif (((mget ei19 r_.got).isSome) && z41) then
 (chk (decide (out_13.length + 1 ≤ lim)) (m_quorum_Read_Behind_j5 f18 (out_13 ++ [ei19])))
 else
 (m_quorum_Read_Behind_j5 f18 out_13)))
def m_quorum_Read_Behind (r_ : Oquorum_asking_api_Ver) : Option (List Int) :=
 (Option.bind (m_quorum_Read_Vers r_) fun z1 => (forI (m_quorum_Read_Behind_b4 r_ z1) (fun out_13 =>
 (some out_13)) 0 r_.list []))
def m_quorum_asking_api_Ver_Done (a : Oquorum_asking_api_Ver) : Option Bool :=
 (some (decide (a.need ≤ ((a.got.length : Nat) : Int))))
def m_quorum_Read_Done (r_ : Oquorum_asking_api_Ver) : Option Bool :=
 (Option.bind (m_quorum_asking_api_Ver_Done r_) fun z1 => (some z1))
def m_firthref03_Same_b1 (b : List Span) (f2 : Unit → Option Bool) (i3 : Nat) (ei3 : Span) : Unit → Option Bool := fun _ =>
 (chk (decide (i3 < b.length)) (bif (ei3 != (gt b i3)) then
 (some false)
 else
 (f2 ())))
def m_firthref03_Same (a : List Span) (b : List Span) : Option Bool :=
 (bif (((a.length : Nat) : Int) != ((b.length : Nat) : Int)) then
 (some false)
 else
 (forI (m_firthref03_Same_b1 b) (fun _ =>
 (some true)) 0 a ()))
def m_firthref05_SameOne (a : Ver) (b : Ver) : Option Bool :=
 (Option.bind (gcall (((a.dot == b.dot) && (a.gone == b.gone)) && (a.val == b.val)) (m_firthref03_Same a.past b.past)) fun z18 => (some ((((a.dot == b.dot) && (a.gone == b.gone)) && (a.val == b.val)) && z18)))
def m_firthref05_Same_b1 (b : List Ver) (f2 : Unit → Option Bool) (i3 : Nat) (ei3 : Ver) : Unit → Option Bool := fun _ =>
 (chk (decide (i3 < b.length)) (Option.bind (m_firthref05_SameOne ei3 (gt b i3)) fun z16 => (bif (!z16) then
 (some false)
 else
 (f2 ()))))
def m_firthref05_Same (a : List Ver) (b : List Ver) : Option Bool :=
 (bif (((a.length : Nat) : Int) != ((b.length : Nat) : Int)) then
 (some false)
 else
 (forI (m_firthref05_Same_b1 b) (fun _ =>
 (some true)) 0 a ()))
def m_firthlaw16_awake  : Option Bool :=
 (Option.bind (m_quorum_NewWrite [3, 1, 2] 2) fun z8 => (bif (!((Option.isNone z8.1) || (z8.2 != 0))) then
 (Option.bind z8.1 fun z22 => (Option.bind (m_quorum_Write_Ack z22 1) fun z25 => (bif (!(!z25.2)) then
 (Option.bind (m_quorum_Write_Ack z25.1 1) fun z35 => (bif (!z35.2) then
 (Option.bind (m_quorum_Write_Ack z35.1 4) fun z45 => (Option.bind (gcall (!z45.2) (m_quorum_Write_Done z45.1)) fun z55 => (bif (!(z45.2 || z55)) then
 (Option.bind (m_quorum_Write_Ack z45.1 3) fun z59 => (bif (!z59.2) then
 (some false)
 else
 (Option.bind (m_quorum_Write_Waits z59.1) fun z68 => (Option.bind (m_quorum_NewRead [1, 2] 2) fun z85 => (bif ((Option.isNone z85.1) || (z85.2 != 0)) then
 (some false)
 else
 (Option.bind z85.1 fun z98 => (Option.bind (m_quorum_Read_Got z98 1 [(⟨(⟨1, 1⟩ : Dot), [], false, ByteArray.empty⟩ : Ver)]) fun z108 => (Option.bind (m_quorum_Read_Got z108.1 2 []) fun z116 => (Option.bind (m_quorum_Read_Behind z116.1) fun z124 => (Option.bind (m_quorum_Write_Done z59.1) fun z134 => (chk (imp (z134 && (((z68.length : Nat) : Int) == 1)) (decide (0 < z68.length))) (Option.bind (gcall ((z134 && (((z68.length : Nat) : Int) == 1)) && ((gt z68 0) == 2)) (m_quorum_Read_Done z116.1)) fun z146 => (bif (((z134 && (((z68.length : Nat) : Int) == 1)) && ((gt z68 0) == 2)) && z146) then
 (Option.bind (m_quorum_Read_Vers z116.1) fun z150 => (Option.bind (m_firthref05_Same z150 [(⟨(⟨1, 1⟩ : Dot), [], false, ByteArray.empty⟩ : Ver)]) fun z160 => (chk (imp (z160 && (((z124.length : Nat) : Int) == 1)) (decide (0 < z124.length))) (some ((z160 && (((z124.length : Nat) : Int) == 1)) && ((gt z124 0) == 2))))))
 else
 (some false))))))))))))))
 else
 (some false))))
 else
 (some false)))
 else
 (some false))))
 else
 (some false)))
def m_firthref03_Dot (d : Dot) : Option Bool :=
 (some ((((decide (1 ≤ d.s)) && (decide (d.s ≤ 16))) && (decide (1 ≤ d.n))) && (decide (d.n ≤ 4611686018427387904))))
def m_firthref03_Right_b1 (l : List Span) (f2 : Unit → Option Bool) (i3 : Nat) (ei3 : Span) : Unit → Option Bool := fun _ =>
 (Option.bind (m_firthref03_Dot (⟨ei3.s, ei3.f⟩ : Dot)) fun z9 => (Option.bind (gcall (!(!z9)) (m_firthref03_Dot (⟨ei3.s, ei3.t⟩ : Dot))) fun z23 => (bif (((!z9) || (!z23)) || (decide (ei3.t < ei3.f))) then
 (some false)
 else
 (chk (imp (decide (0 < ((i3 : Nat) : Int))) (inb (w64 (((i3 : Nat) : Int) - 1)) l.length)) (bif ((decide (0 < ((i3 : Nat) : Int))) && ((decide (ei3.s < (gt l ((w64 (((i3 : Nat) : Int) - 1)).toNat)).s)) || ((ei3.s == (gt l ((w64 (((i3 : Nat) : Int) - 1)).toNat)).s) && (decide ((w64 (ei3.f - 1)) ≤ (gt l ((w64 (((i3 : Nat) : Int) - 1)).toNat)).t))))) then
 (some false)
 else
 (f2 ()))))))
def m_firthref03_Right (l : List Span) : Option Bool :=
 (bif (decide (1024 < ((l.length : Nat) : Int))) then
 (some false)
 else
 (forI (m_firthref03_Right_b1 l) (fun _ =>
 (some true)) 0 l ()))
def m_firthref03_Top_j6 (f3 : Int → Option Int) (n_10 : Int) : Option Int :=
 (f3 n_10)
def m_firthref03_Top_b5 (s_ : Int) (f3 : Int → Option Int) (i4 : Nat) (ei4 : Span) : Int → Option Int := fun n_1 =>
 (bif ((ei4.s == s_) && (decide (n_1 < ei4.t))) then
 (m_firthref03_Top_j6 f3 (ei4.t))
 else
 (m_firthref03_Top_j6 f3 n_1))
def m_firthref03_Top (l : List Span) (s_ : Int) : Option Int :=
 (forI (m_firthref03_Top_b5 s_) (fun n_1 =>
 (some n_1)) 0 l 0)
def m_firthref05_RightOne (v_ : Ver) : Option Bool :=
 (Option.bind (m_firthref03_Dot v_.dot) fun z2 => (Option.bind (gcall (!(!z2)) (m_firthref03_Right v_.past)) fun z7 => (Option.bind (gcall (!((!z2) || (!z7))) (m_firthref03_Top v_.past v_.dot.s)) fun z16 => (bif (((!z2) || (!z7)) || (decide (v_.dot.n ≤ z16))) then
 (some false)
 else
 (bif v_.gone then
 (some (v_.val == ByteArray.empty))
 else
 (some (decide (((v_.val.size : Nat) : Int) ≤ 256))))))))
def m_firthref03_Has_b1 (d : Dot) (f2 : Unit → Option Bool) (i3 : Nat) (ei3 : Span) : Unit → Option Bool := fun _ =>
 (bif (((ei3.s == d.s) && (decide (ei3.f ≤ d.n))) && (decide (d.n ≤ ei3.t))) then
 (some true)
 else
 (f2 ()))
def m_firthref03_Has (l : List Span) (d : Dot) : Option Bool :=
 (forI (m_firthref03_Has_b1 d) (fun _ =>
 (some false)) 0 l ())
def m_firthref05_Behind_b1 (d : Dot) (f2 : Unit → Option Bool) (i3 : Nat) (ei3 : Ver) : Unit → Option Bool := fun _ =>
 (Option.bind (m_firthref03_Has (ei3.past) d) fun z12 => (bif z12 then
 (some true)
 else
 (f2 ())))
def m_firthref05_Behind (l : List Ver) (d : Dot) : Option Bool :=
 (forI (m_firthref05_Behind_b1 d) (fun _ =>
 (some false)) 0 l ())
def m_firthref05_Less (a : Dot) (b : Dot) : Option Bool :=
 (bif (a.s != b.s) then
 (some (decide (a.s < b.s)))
 else
 (some (decide (a.n < b.n))))
def m_firthref05_Right_b1 (l : List Ver) (f2 : Unit → Option Bool) (i3 : Nat) (ei3 : Ver) : Unit → Option Bool := fun _ =>
 (Option.bind (m_firthref05_RightOne ei3) fun z12 => (Option.bind (gcall (!(!z12)) (m_firthref05_Behind l (ei3.dot))) fun z21 => (bif ((!z12) || z21) then
 (some false)
 else
 (chk (imp (decide (0 < ((i3 : Nat) : Int))) (inb (w64 (((i3 : Nat) : Int) - 1)) l.length)) (Option.bind (gcall (decide (0 < ((i3 : Nat) : Int))) (m_firthref05_Less ((gt l ((w64 (((i3 : Nat) : Int) - 1)).toNat)).dot) (ei3.dot))) fun z40 => (bif ((decide (0 < ((i3 : Nat) : Int))) && (!z40)) then
 (some false)
 else
 (f2 ())))))))
def m_firthref05_Right (l : List Ver) : Option Bool :=
 (bif (decide (512 < ((l.length : Nat) : Int))) then
 (some false)
 else
 (forI (m_firthref05_Right_b1 l) (fun _ =>
 (some true)) 0 l ()))



def m_quorum_ask_api_Rec_b1 (list : List Int) (f12 : Unit → Option ((Option Oquorum_asking_api_Rec) × Int)) (i13 : Nat) (ei13 : Int) : Unit → Option ((Option Oquorum_asking_api_Rec) × Int) := fun _ =>
 (Option.bind (gcall (!((decide (ei13 < 1)) || (decide (8 < ei13)))) (m_slices_Contains_int_int (List.take i13 list) ei13)) fun z26 => (bif (((decide (ei13 < 1)) || (decide (8 < ei13))) || z26) then
 (some (none, 1))
 else
 (f12 ())))
def m_quorum_ask_api_Rec (list : List Int) (need : Int) : Option ((Option Oquorum_asking_api_Rec) × Int) :=
 (bif ((((decide (((list.length : Nat) : Int) < 1)) || (decide (8 < ((list.length : Nat) : Int)))) || (decide (need < 1))) || (decide (((list.length : Nat) : Int) < need))) then
 (some (none, 1))
 else
 (forI (m_quorum_ask_api_Rec_b1 list) (fun _ =>
 (Option.bind (m_slices_Clone_int_int list) fun z29 => (some ((some (⟨z29, need, ([] : List (Int × (List Rec)))⟩ : Oquorum_asking_api_Rec)), 0)))) 0 list ()))

def m_quorum_NewScan (list : List Int) (need : Int) : Option ((Option Oquorum_asking_api_Rec) × Int) :=
 (Option.bind (m_quorum_ask_api_Rec list need) fun z1 => (optm z1.1
 ((bif (z1.2 != 0) then
 (some (none, z1.2))
 else
 none))
 fun o8 =>
 (bif (z1.2 != 0) then
 (some (none, z1.2))
 else
 (some ((some (⟨o8.list, o8.need, o8.got⟩ : Oquorum_asking_api_Rec)), z1.2)))))





def m_code_RightRec (r_ : Rec) : Option Bool :=
 (Option.bind (gcall ((decide (1 ≤ ((r_.key.size : Nat) : Int))) && (decide (((r_.key.size : Nat) : Int) ≤ 32))) (m_vers_Right r_.vers)) fun z9 => (some (((decide (1 ≤ ((r_.key.size : Nat) : Int))) && (decide (((r_.key.size : Nat) : Int) ≤ 32))) && z9)))
def m_quorum_asking_api_Rec_count (a : Oquorum_asking_api_Rec) (node : Int) (x_ : List Rec) : Option (Oquorum_asking_api_Rec × Bool) :=
 (Option.bind (gcall (!((mget node a.got).isSome)) (m_slices_Contains_int_int a.list node)) fun z15 => (bif (((mget node a.got).isSome) || (!z15)) then
 (some (a, false))
 else
 (some ((⟨a.list, a.need, (mput node x_ a.got)⟩ : Oquorum_asking_api_Rec), true))))
def m_quorum_Scan_Got_b1 (s_ : Oquorum_asking_api_Rec) (f8 : List Rec → Option (Oquorum_asking_api_Rec × Bool)) (i9 : Nat) (ei9 : Rec) : List Rec → Option (Oquorum_asking_api_Rec × Bool) := fun own_3 =>
 (Option.bind (m_code_RightRec ei9) fun z19 => (bif (!z19) then
 (some (s_, false))
 else
 (Option.bind (m_vers_Merge (ei9.vers) []) fun z22 => (chk (decide (own_3.length + 1 ≤ lim)) (f8 (own_3 ++ [(⟨ei9.key, z22.1⟩ : Rec)]))))))
def m_quorum_Scan_Got (s_ : Oquorum_asking_api_Rec) (node : Int) (l : List Rec) : Option (Oquorum_asking_api_Rec × Bool) :=
 (forI (m_quorum_Scan_Got_b1 s_) (fun own_3 =>
 (Option.bind (m_quorum_asking_api_Rec_count s_ node own_3) fun z49 => (some (z49.1, z49.2)))) 0 l [])
def m_quorum_Read_Vers_l1_j5 (f12 : List Ver → Option (List Ver)) (out_21 : List Ver) : Option (List Ver) :=
 (f12 out_21)
def m_quorum_Read_Vers_l1_b4 (r_ : Oquorum_asking_api_Ver) (f12 : List Ver → Option (List Ver)) (i13 : Nat) (ei13 : Int) : List Ver → Option (List Ver) := fun out_7 =>
 (Option.bind (m_vers_Merge out_7 ((mget ei13 r_.got).getD [])) fun z33 => (bif (z33.2 == 0) then
 (m_quorum_Read_Vers_l1_j5 f12 z33.1)
 else
 (m_quorum_Read_Vers_l1_j5 f12 out_7)))
def m_quorum_Read_Vers_l1 (r_ : Oquorum_asking_api_Ver) : Option (List Ver) :=
 (forI (m_quorum_Read_Vers_l1_b4 r_) (fun out_7 =>
 (some out_7)) 0 r_.list [])
def m_mend_right_1 (r_ : Rec) : Option Bool :=
 (Option.bind (m_code_RightRec r_) fun z2 => (some (!z2)))
def m_slices_IndexFunc_api_Rec_api_Rec_b1 (f1 : Unit → Option Int) (i2 : Nat) (ei2 : Rec) : Unit → Option Int := fun _ =>
 (Option.bind (m_mend_right_1 ei2) fun z11 => (bif z11 then
 (some ((i2 : Nat) : Int))
 else
 (f1 ())))
def m_slices_IndexFunc_api_Rec_api_Rec (s_ : List Rec) : Option Int :=
 (forI (m_slices_IndexFunc_api_Rec_api_Rec_b1) (fun _ =>
 (some (-1))) 0 s_ ())
def m_slices_ContainsFunc_api_Rec_api_Rec (s_ : List Rec) : Option Bool :=
 (Option.bind (m_slices_IndexFunc_api_Rec_api_Rec s_) fun z1 => (some (decide (0 ≤ z1))))
def m_mend_right (l : List Rec) : Option Bool :=
 (Option.bind (m_slices_ContainsFunc_api_Rec_api_Rec l) fun z1 => (some (!z1)))
def m_mend_held_b1 (f7 : List (ByteArray × (List Ver)) → Option (List (ByteArray × (List Ver)))) (i8 : Nat) (ei8 : Rec) : List (ByteArray × (List Ver)) → Option (List (ByteArray × (List Ver))) := fun m4 =>
 (f7 (mput (ei8.key) (ei8.vers) m4))
def m_mend_held (l : List Rec) : Option (List (ByteArray × (List Ver))) :=
 (forI (m_mend_held_b1) (fun m4 =>
 (some m4)) 0 l ([] : List (ByteArray × (List Ver))))
def m_mend_Take_j5 (f32 : List (ByteArray × (List Ver)) → Option ((List Rec) × Int)) (m41 : List (ByteArray × (List Ver))) : Option ((List Rec) × Int) :=
 (f32 m41)
def m_mend_Take_j10 (f89 : List Rec → Option ((List Rec) × Int)) (out_96 : List Rec) : Option ((List Rec) × Int) :=
 (f89 out_96)
def m_mend_Take_b9 (z18 : List (ByteArray × (List Ver))) (m29 : List (ByteArray × (List Ver))) (f89 : List Rec → Option ((List Rec) × Int)) (i90 : Nat) (ei90 : ByteArray) : List Rec → Option ((List Rec) × Int) := fun out_84 =>
 (Option.bind (gcall (decide (0 < ((((mget ei90 m29).getD []).length : Nat) : Int))) (m_vers_Same ((mget ei90 m29).getD []) ((mget ei90 z18).getD []))) fun z129 => (bif ((decide (0 < ((((mget ei90 m29).getD []).length : Nat) : Int))) && (!z129)) then
 (chk (decide (out_84.length + 1 ≤ lim)) (m_mend_Take_j10 f89 (out_84 ++ [(⟨ei90, ((mget ei90 m29).getD [])⟩ : Rec)])))
 else
 (m_mend_Take_j10 f89 out_84)))
def m_mend_Take_b4 (f32 : List (ByteArray × (List Ver)) → Option ((List Rec) × Int)) (i33 : Nat) (ei33 : Rec) : List (ByteArray × (List Ver)) → Option ((List Rec) × Int) := fun m29 =>
 (Option.bind (m_vers_Merge ((mget (ei33.key) m29).getD []) (ei33.vers)) fun z55 => (bif (z55.2 == 0) then
 (m_mend_Take_j5 f32 (mput (ei33.key) z55.1 m29))
 else
 (m_mend_Take_j5 f32 m29)))
def m_mend_Take (own : List Rec) (theirs : List Rec) : Option ((List Rec) × Int) :=
 (Option.bind (m_mend_right own) fun z1 => (Option.bind (gcall (!(!z1)) (m_mend_right theirs)) fun z5 => (bif ((!z1) || (!z5)) then
 (some ([], 1))
 else
 (Option.bind (m_mend_held own) fun z9 => (Option.bind (m_mend_held own) fun z18 => (forI (m_mend_Take_b4) (fun m29 =>
 (chk (decide (m29.length ≤ lim)) (forI (m_mend_Take_b9 z18 m29) (fun out_84 =>
 (some (out_84, 0))) 0 (skeys m29) []))) 0 theirs z9))))))


def m_quorum_last_1 (x_ : Rec) (b0v0 : ByteArray) (b0v1 : List Ver) : Option Bool :=
 (some (x_.key == b0v0))
def m_slices_IndexFunc_api_Rec_api_Rec_s1_b1 (f_0v0 : ByteArray) (f_0v1 : List Ver) (f3 : Unit → Option Int) (i4 : Nat) (ei4 : Rec) : Unit → Option Int := fun _ =>
 (Option.bind (m_quorum_last_1 ei4 f_0v0 f_0v1) fun z13 => (bif z13 then
 (some ((i4 : Nat) : Int))
 else
 (f3 ())))
def m_slices_IndexFunc_api_Rec_api_Rec_s1 (s_ : List Rec) (f_0v0 : ByteArray) (f_0v1 : List Ver) : Option Int :=
 (forI (m_slices_IndexFunc_api_Rec_api_Rec_s1_b1 f_0v0 f_0v1) (fun _ =>
 (some (-1))) 0 s_ ())
def m_slices_ContainsFunc_api_Rec_api_Rec_s1 (s_ : List Rec) (f_0v0 : ByteArray) (f_0v1 : List Ver) : Option Bool :=
 (Option.bind (m_slices_IndexFunc_api_Rec_api_Rec_s1 s_ f_0v0 f_0v1) fun z1 => (some (decide (0 ≤ z1))))
def m_quorum_last_j5 (f8 : List Rec → Option (List Rec)) (out_17 : List Rec) : Option (List Rec) :=
 (f8 out_17)
def m_quorum_last_b4 (l : List Rec) (f8 : List Rec → Option (List Rec)) (i9 : Nat) (ei9 : Rec) : List Rec → Option (List Rec) := fun out_3 =>
 (chk (decide (i9 + 1 ≤ l.length)) (Option.bind (m_slices_ContainsFunc_api_Rec_api_Rec_s1 (List.drop (i9 + 1) l) (ei9.key) (ei9.vers)) fun z27 => (bif (!z27) then
 (chk (decide (out_3.length + 1 ≤ lim)) (m_quorum_last_j5 f8 (out_3 ++ [ei9])))
 else
 (m_quorum_last_j5 f8 out_3))))
def m_quorum_last (l : List Rec) : Option (List Rec) :=
 (forI (m_quorum_last_b4 l) (fun out_3 =>
 (some out_3)) 0 l [])
def m_quorum_Scan_Recs_b1 (s_ : Oquorum_asking_api_Rec) (f10 : List Rec → Option (List Rec)) (i11 : Nat) (ei11 : Int) : List Rec → Option (List Rec) := fun all_5 =>
 (Option.bind (m_mend_Take all_5 ((mget ei11 s_.got).getD [])) fun z25 => (chk (decide (all_5.length + z25.1.length ≤ lim)) (f10 (all_5 ++ z25.1))))
def m_quorum_Scan_Recs (s_ : Oquorum_asking_api_Rec) : Option (List Rec) :=
 (forI (m_quorum_Scan_Recs_b1 s_) (fun all_5 =>
 (Option.bind (m_quorum_last all_5) fun z47 => (Option.bind (m_mend_Take [] z47) fun z57 => (some z57.1)))) 0 s_.list [])
def m_quorum_Scan_Recs_l0_b1 (s_ : Oquorum_asking_api_Rec) (f12 : List Rec → Option (List Rec)) (i13 : Nat) (ei13 : Int) : List Rec → Option (List Rec) := fun all_7 =>
 (Option.bind (m_mend_Take all_7 ((mget ei13 s_.got).getD [])) fun z26 => (chk (decide (all_7.length + z26.1.length ≤ lim)) (f12 (all_7 ++ z26.1))))
def m_quorum_Scan_Recs_l0 (s_ : Oquorum_asking_api_Rec) : Option (List Rec) :=
 (forI (m_quorum_Scan_Recs_l0_b1 s_) (fun all_7 =>
 (Option.bind (m_quorum_last all_7) fun z47 => (Option.bind (m_mend_Take [] z47) fun z57 => (some z57.1)))) 0 s_.list [])
def m_firthref06_RightRec (r_ : Rec) : Option Bool :=
 (Option.bind (gcall ((r_.key != ByteArray.empty) && (decide (((r_.key.size : Nat) : Int) ≤ 32))) (m_firthref05_Right r_.vers)) fun z9 => (some (((r_.key != ByteArray.empty) && (decide (((r_.key.size : Nat) : Int) ≤ 32))) && z9)))
def m_firthref10_With_j11 (f8 : (List Rec) × Bool → Option (List Rec)) (out_15 : List Rec) (laid_20 : Bool) : Option (List Rec) :=
 (f8 (out_15, laid_20))
def m_firthref10_With_j13 (l : List Rec) (f8 : (List Rec) × Bool → Option (List Rec)) (i9 : Nat) (out_25 : List Rec) (laid_30 : Bool) : Option (List Rec) :=
 (chk (decide (out_25.length + 1 ≤ lim)) (m_firthref10_With_j11 f8 (out_25 ++ [(gt l i9)]) laid_30))
def m_firthref10_With_b10 (l : List Rec) (r_ : Rec) (f8 : (List Rec) × Bool → Option (List Rec)) (i9 : Nat) (ei9 : Rec) : (List Rec) × Bool → Option (List Rec) := fun (out_2, laid_7) =>
 (bif (ei9.key == r_.key) then
 (m_firthref10_With_j11 f8 out_2 laid_7)
 else
 (bif ((!laid_7) && (strLt r_.key (ei9.key))) then
 (chk (decide (out_2.length + 1 ≤ lim)) (m_firthref10_With_j13 l f8 i9 (out_2 ++ [r_]) true))
 else
 (m_firthref10_With_j13 l f8 i9 out_2 laid_7)))
def m_firthref10_With (l : List Rec) (r_ : Rec) : Option (List Rec) :=
 (forI (m_firthref10_With_b10 l r_) (fun (out_2, laid_7) =>
 (bif (!laid_7) then
 (chk (decide (out_2.length + 1 ≤ lim)) (some (out_2 ++ [r_])))
 else
 (some out_2))) 0 l ([], (((r_.vers.length : Nat) : Int) == 0)))
def m_firthref14_Held_b1 (f8 : List Rec → Option ((List Rec) × Bool)) (i9 : Nat) (ei9 : Rec) : List Rec → Option ((List Rec) × Bool) := fun out_3 =>
 (Option.bind (m_firthref06_RightRec ei9) fun z18 => (bif (!z18) then
 (some ([], false))
 else
 (Option.bind (m_firthref10_With out_3 ei9) fun z26 => (f8 z26))))
def m_firthref14_Held (l : List Rec) : Option ((List Rec) × Bool) :=
 (forI (m_firthref14_Held_b1) (fun out_3 =>
 (some (out_3, true))) 0 l [])
def m_firthref14_Get_b1 (key : ByteArray) (f1 : Unit → Option (List Ver)) (i2 : Nat) (ei2 : Rec) : Unit → Option (List Ver) := fun _ =>
 (bif (ei2.key == key) then
 (some (ei2.vers))
 else
 (f1 ()))
def m_firthref14_Get (l : List Rec) (key : ByteArray) : Option (List Ver) :=
 (forI (m_firthref14_Get_b1 key) (fun _ =>
 (some [])) 0 l ())
def m_firthref05_put_b1 (l : List Ver) (v_ : Ver) (f4 : Int → Option (List Ver)) : Int → Option (List Ver) := fun at_2 =>
 (chk (imp (decide (at_2 < ((l.length : Nat) : Int))) (inb at_2 l.length)) (Option.bind (gcall (decide (at_2 < ((l.length : Nat) : Int))) (m_firthref05_Less ((gt l at_2.toNat).dot) v_.dot)) fun z20 => (bif ((decide (at_2 < ((l.length : Nat) : Int))) && z20) then
 (f4 (w64 (at_2 + 1)))
 else
 (bif ((decide (at_2 < ((l.length : Nat) : Int))) && ((gt l at_2.toNat).dot == v_.dot)) then
 (some l)
 else
 (chk (inle at_2 l.length) (chk (decide (0 + (List.take at_2.toNat l).length ≤ lim)) (chk (decide ((List.take at_2.toNat l).length + 1 ≤ lim)) (chk (decide (((List.take at_2.toNat l) ++ [v_]).length + (List.drop at_2.toNat l).length ≤ lim)) (some (((List.take at_2.toNat l) ++ [v_]) ++ (List.drop at_2.toNat l)))))))))))
def m_firthref05_put (l : List Ver) (v_ : Ver) : Option (List Ver) :=
 (loopN (m_firthref05_put_b1 l v_) FU 0)
def m_firthref05_Merge_b5 (a : List Ver) (i10 : Nat) (f16 : Unit → Option ((List Ver) × Int)) (i17 : Nat) (ei17 : Ver) : Unit → Option ((List Ver) × Int) := fun _ =>
 (Option.bind (gcall ((gt a i10).dot == ei17.dot) (m_firthref05_SameOne (gt a i10) ei17)) fun z38 => (bif (((gt a i10).dot == ei17.dot) && (!z38)) then
 (some ([], 50))
 else
 (f16 ())))
def m_firthref05_Merge_j10 (f49 : List Ver → Option ((List Ver) × Int)) (out_58 : List Ver) : Option ((List Ver) × Int) :=
 (f49 out_58)
def m_firthref05_Merge_j15 (f86 : List Ver → Option ((List Ver) × Int)) (out_95 : List Ver) : Option ((List Ver) × Int) :=
 (f86 out_95)
def m_firthref05_Merge_b14 (a : List Ver) (f86 : List Ver → Option ((List Ver) × Int)) (i87 : Nat) (ei87 : Ver) : List Ver → Option ((List Ver) × Int) := fun out_81 =>
 (Option.bind (m_firthref05_Behind a (ei87.dot)) fun z103 => (bif (!z103) then
 (Option.bind (m_firthref05_put out_81 ei87) fun z106 => (m_firthref05_Merge_j15 f86 z106))
 else
 (m_firthref05_Merge_j15 f86 out_81)))
def m_firthref05_Merge_b9 (b : List Ver) (f49 : List Ver → Option ((List Ver) × Int)) (i50 : Nat) (ei50 : Ver) : List Ver → Option ((List Ver) × Int) := fun out_44 =>
 (Option.bind (m_firthref05_Behind b (ei50.dot)) fun z66 => (bif (!z66) then
 (Option.bind (m_firthref05_put out_44 ei50) fun z69 => (m_firthref05_Merge_j10 f49 z69))
 else
 (m_firthref05_Merge_j10 f49 out_44)))
def m_firthref05_Merge_b4 (a : List Ver) (b : List Ver) (f9 : Unit → Option ((List Ver) × Int)) (i10 : Nat) (ei10 : Ver) : Unit → Option ((List Ver) × Int) := fun _ =>
 (forI (m_firthref05_Merge_b5 a i10) (fun _ =>
 (f9 ())) 0 b ())
def m_firthref05_Merge (a : List Ver) (b : List Ver) : Option ((List Ver) × Int) :=
 (Option.bind (m_firthref05_Right a) fun z1 => (Option.bind (gcall (!(!z1)) (m_firthref05_Right b)) fun z5 => (bif ((!z1) || (!z5)) then
 (some ([], 1))
 else
 (forI (m_firthref05_Merge_b4 a b) (fun _ =>
 (forI (m_firthref05_Merge_b9 b) (fun out_44 =>
 (forI (m_firthref05_Merge_b14 a) (fun out_81 =>
 (bif (decide (512 < ((out_81.length : Nat) : Int))) then
 (some ([], 3))
 else
 (some (out_81, 0)))) 0 b out_44)) 0 a [])) 0 a ()))))
def m_firthref14_Take_j5 (was_25 : List Rec) (f35 : (List Rec) × (List Rec) → Option ((List Rec) × Int)) (now_49 : List Rec) : Option ((List Rec) × Int) :=
 (f35 (was_25, now_49))
def m_firthref14_Take_j10 (f102 : List Rec → Option ((List Rec) × Int)) (out_111 : List Rec) : Option ((List Rec) × Int) :=
 (f102 out_111)
def m_firthref14_Take_b9 (was_25 : List Rec) (f102 : List Rec → Option ((List Rec) × Int)) (i103 : Nat) (ei103 : Rec) : List Rec → Option ((List Rec) × Int) := fun out_97 =>
 (Option.bind (m_firthref14_Get was_25 (ei103.key)) fun z120 => (Option.bind (m_firthref05_Same (ei103.vers) z120) fun z130 => (bif (!z130) then
 (chk (decide (out_97.length + 1 ≤ lim)) (m_firthref14_Take_j10 f102 (out_97 ++ [ei103])))
 else
 (m_firthref14_Take_j10 f102 out_97))))
def m_firthref14_Take_b4 (f35 : (List Rec) × (List Rec) → Option ((List Rec) × Int)) (i36 : Nat) (ei36 : Rec) : (List Rec) × (List Rec) → Option ((List Rec) × Int) := fun (was_25, now_30) =>
 (Option.bind (m_firthref14_Get now_30 (ei36.key)) fun z58 => (Option.bind (m_firthref05_Merge z58 (ei36.vers)) fun z68 => (bif (z68.2 == 0) then
 (Option.bind (m_firthref10_With now_30 (⟨ei36.key, z68.1⟩ : Rec)) fun z80 => (m_firthref14_Take_j5 was_25 f35 z80))
 else
 (m_firthref14_Take_j5 was_25 f35 now_30))))
def m_firthref14_Take (own : List Rec) (theirs : List Rec) : Option ((List Rec) × Int) :=
 (Option.bind (m_firthref14_Held own) fun z1 => (bif (!z1.2) then
 (some ([], 1))
 else
 (Option.bind (m_firthref14_Held theirs) fun z12 => (bif (!z12.2) then
 (some ([], 1))
 else
 (forI (m_firthref14_Take_b4) (fun (was_25, now_30) =>
 (forI (m_firthref14_Take_b9 was_25) (fun out_97 =>
 (some (out_97, 0))) 0 now_30 [])) 0 theirs (z1.1, z1.1))))))
def m_firthref06_SameRecs_b1 (b : List Rec) (f2 : Unit → Option Bool) (i3 : Nat) (ei3 : Rec) : Unit → Option Bool := fun _ =>
 (chk (decide (i3 < b.length)) (Option.bind (gcall (!(ei3.key != (gt b i3).key)) (m_firthref05_Same (ei3.vers) ((gt b i3).vers))) fun z27 => (bif ((ei3.key != (gt b i3).key) || (!z27)) then
 (some false)
 else
 (f2 ()))))
def m_firthref06_SameRecs (a : List Rec) (b : List Rec) : Option Bool :=
 (bif (((a.length : Nat) : Int) != ((b.length : Nat) : Int)) then
 (some false)
 else
 (forI (m_firthref06_SameRecs_b1 b) (fun _ =>
 (some true)) 0 a ()))
def m_firthlaw16_QuorumKeeps_b1 (f73 : List Ver → Option Bool) (i74 : Nat) (ei74 : Ver) : List Ver → Option Bool := fun x69 =>
 (f73 (List.set x69 i74 (⟨(⟨(gt x69 i74).dot.s, (gt x69 i74).dot.n⟩ : Dot), (gt x69 i74).past, (gt x69 i74).gone, (⟨#[115, 112, 111, 105, 108, 116]⟩ : ByteArray)⟩ : Ver)))
def m_firthlaw16_QuorumKeeps (l : List Ver) (recs : List Rec) : Option Bool :=
 (Option.bind (m_firthlaw16_awake) fun z1 => (Option.bind (gcall (!(!z1)) (m_firthref05_Right l)) fun z5 => (bif ((!z1) || (!z5)) then
 (Option.bind (m_firthlaw16_awake) fun z9 => (some z9))
 else
 (Option.bind (m_quorum_NewRead [2, 1] 1) fun z13 => (Option.bind (m_quorum_NewScan [2, 1] 1) fun z23 => (bif ((((Option.isNone z13.1) || (Option.isNone z23.1)) || (z13.2 != 0)) || (z23.2 != 0)) then
 (some false)
 else
 (Option.bind z23.1 fun z40 => (Option.bind z13.1 fun z43 => (chk (decide (0 + l.length ≤ lim)) (Option.bind (m_quorum_Read_Got z43 2 l) fun z53 => (Option.bind (m_quorum_Scan_Got z40 2 recs) fun z61 => (forI (m_firthlaw16_QuorumKeeps_b1) (fun x69 =>
 (Option.bind (m_quorum_Read_Vers_l1 z53.1) fun z85 => (Option.bind (m_quorum_Scan_Recs_l0 z61.1) fun z129 => (Option.bind (m_firthref14_Take [] recs) fun z176 => (Option.bind (m_quorum_Read_Vers_l1 z53.1) fun z187 => (Option.bind (m_firthref05_Same z187 l) fun z200 => (bif (z200 && (!(!z61.2))) then
 (Option.bind (m_quorum_Scan_Recs_l0 z61.1) fun z207 => (Option.bind (m_firthref06_SameRecs z207 z176.1) fun z220 => (bif z220 then
 (Option.bind (m_quorum_Read_Got z53.1 7 []) fun z224 => (some (!z224.2)))
 else
 (some false))))
 else
 (bif (z200 && true) then
 (Option.bind (m_quorum_Read_Got z53.1 7 []) fun z235 => (some (!z235.2)))
 else
 (some false))))))))) 0 l l))))))))))))
end Fw
end Go.Proofs.Ytlgahohnbkkoiaa
