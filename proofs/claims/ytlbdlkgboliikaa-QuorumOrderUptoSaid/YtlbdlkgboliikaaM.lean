/- What the functions compute, as Lean functions (printed by a program). No condition. -/
import Derived.Test.YtlbdlkgboliikaaE
namespace Go.Proofs.Ytlbdlkgboliikaa
namespace Fw
set_option linter.unusedVariables false
set_option linter.unusedSimpArgs false
set_option linter.unusedSectionVars false
open Go.RowKit
structure Oquorum_asking_bool where
  list : (List Int)
  need : Int
  got : (List (Int × Bool))
  deriving Inhabited, DecidableEq
structure Oquorum_asking_api_Ver where
  list : (List Int)
  need : Int
  got : (List (Int × (List Ver)))
  deriving Inhabited, DecidableEq
structure Ofirthref16_Ask where
  list : (List Int)
  need : Int
  in_ : (List Bool)
  vers : (List (List Ver))
  recs : (List (List Rec))
  deriving Inhabited, DecidableEq
def m_slices_Index_int_int_b1 (v_ : Int) (f1 : Unit → Option Int) (i2 : Nat) (ei2 : Int) : Unit → Option Int := fun _ =>
 (bif (v_ == ei2) then
 (some ((i2 : Nat) : Int))
 else
 (f1 ()))
def m_slices_Index_int_int (s_ : List Int) (v_ : Int) : Option Int :=
 (forI (m_slices_Index_int_int_b1 v_) (fun _ =>
 (some (-1))) 0 s_ ())
def m_slices_Contains_int_int (s_ : List Int) (v_ : Int) : Option Bool :=
 (Option.bind (m_slices_Index_int_int s_ v_) fun z1 => (some (decide (0 ≤ z1))))
def m_slices_Clone_int_int (s_ : List Int) : Option (List Int) :=
 (nilc s_.isEmpty (
 (some []))
 ((chk (decide (0 + s_.length ≤ lim)) (some (([] : List Int) ++ s_)))))
def m_quorum_ask_bool_b1 (list : List Int) (f12 : Unit → Option ((Option Oquorum_asking_bool) × Int)) (i13 : Nat) (ei13 : Int) : Unit → Option ((Option Oquorum_asking_bool) × Int) := fun _ =>
 (Option.bind (gcall (!((decide (ei13 < 1)) || (decide (8 < ei13)))) (m_slices_Contains_int_int (List.take i13 list) ei13)) fun z26 => (bif (((decide (ei13 < 1)) || (decide (8 < ei13))) || z26) then
 (some (none, 1))
 else
 (f12 ())))
def m_quorum_ask_bool (list : List Int) (need : Int) : Option ((Option Oquorum_asking_bool) × Int) :=
 (bif ((((decide (((list.length : Nat) : Int) < 1)) || (decide (8 < ((list.length : Nat) : Int)))) || (decide (need < 1))) || (decide (((list.length : Nat) : Int) < need))) then
 (some (none, 1))
 else
 (forI (m_quorum_ask_bool_b1 list) (fun _ =>
 (Option.bind (m_slices_Clone_int_int list) fun z29 => (some ((some (⟨z29, need, ([] : List (Int × Bool))⟩ : Oquorum_asking_bool)), 0)))) 0 list ()))
def m_quorum_NewWrite (list : List Int) (need : Int) : Option ((Option Oquorum_asking_bool) × Int) :=
 (Option.bind (m_quorum_ask_bool list need) fun z1 => (optm z1.1
 ((bif (z1.2 != 0) then
 (some (none, z1.2))
 else
 none))
 fun o8 =>
 (bif (z1.2 != 0) then
 (some (none, z1.2))
 else
 (some ((some (⟨o8.list, o8.need, o8.got⟩ : Oquorum_asking_bool)), z1.2)))))
def m_quorum_asking_bool_count (a : Oquorum_asking_bool) (node : Int) (x_ : Bool) : Option (Oquorum_asking_bool × Bool) :=
 (Option.bind (gcall (!((mget node a.got).isSome)) (m_slices_Contains_int_int a.list node)) fun z11 => (bif (((mget node a.got).isSome) || (!z11)) then
 (some (a, false))
 else
 (some ((⟨a.list, a.need, (mput node x_ a.got)⟩ : Oquorum_asking_bool), true))))
def m_quorum_Write_Ack (w_ : Oquorum_asking_bool) (node : Int) : Option (Oquorum_asking_bool × Bool) :=
 (Option.bind (m_quorum_asking_bool_count w_ node true) fun z1 => (some (z1.1, z1.2)))
def m_quorum_asking_bool_Done (a : Oquorum_asking_bool) : Option Bool :=
 (some (decide (a.need ≤ ((a.got.length : Nat) : Int))))
def m_quorum_Write_Done (w_ : Oquorum_asking_bool) : Option Bool :=
 (Option.bind (m_quorum_asking_bool_Done w_) fun z1 => (some z1))
def m_quorum_asking_bool_Waits_j5 (f8 : List Int → Option (List Int)) (out_15 : List Int) : Option (List Int) :=
 (f8 out_15)
def m_quorum_asking_bool_Waits_b4 (a : Oquorum_asking_bool) (f8 : List Int → Option (List Int)) (i9 : Nat) (ei9 : Int) : List Int → Option (List Int) := fun out_3 =>
 (bif (!((mget ei9 a.got).isSome)) then
 (chk (decide (out_3.length + 1 ≤ lim)) (m_quorum_asking_bool_Waits_j5 f8 (out_3 ++ [ei9])))
 else
 (m_quorum_asking_bool_Waits_j5 f8 out_3))
def m_quorum_asking_bool_Waits (a : Oquorum_asking_bool) : Option (List Int) :=
 (forI (m_quorum_asking_bool_Waits_b4 a) (fun out_3 =>
 (some out_3)) 0 a.list [])
def m_quorum_Write_Waits (w_ : Oquorum_asking_bool) : Option (List Int) :=
 (Option.bind (m_quorum_asking_bool_Waits w_) fun z1 => (some z1))
def m_quorum_ask_api_Ver_b1 (list : List Int) (f12 : Unit → Option ((Option Oquorum_asking_api_Ver) × Int)) (i13 : Nat) (ei13 : Int) : Unit → Option ((Option Oquorum_asking_api_Ver) × Int) := fun _ =>
 (Option.bind (gcall (!((decide (ei13 < 1)) || (decide (8 < ei13)))) (m_slices_Contains_int_int (List.take i13 list) ei13)) fun z26 => (bif (((decide (ei13 < 1)) || (decide (8 < ei13))) || z26) then
 (some (none, 1))
 else
 (f12 ())))
def m_quorum_ask_api_Ver (list : List Int) (need : Int) : Option ((Option Oquorum_asking_api_Ver) × Int) :=
 (bif ((((decide (((list.length : Nat) : Int) < 1)) || (decide (8 < ((list.length : Nat) : Int)))) || (decide (need < 1))) || (decide (((list.length : Nat) : Int) < need))) then
 (some (none, 1))
 else
 (forI (m_quorum_ask_api_Ver_b1 list) (fun _ =>
 (Option.bind (m_slices_Clone_int_int list) fun z29 => (some ((some (⟨z29, need, ([] : List (Int × (List Ver)))⟩ : Oquorum_asking_api_Ver)), 0)))) 0 list ()))
def m_quorum_NewRead (list : List Int) (need : Int) : Option ((Option Oquorum_asking_api_Ver) × Int) :=
 (Option.bind (m_quorum_ask_api_Ver list need) fun z1 => (optm z1.1
 ((bif (z1.2 != 0) then
 (some (none, z1.2))
 else
 none))
 fun o8 =>
 (bif (z1.2 != 0) then
 (some (none, z1.2))
 else
 (some ((some (⟨o8.list, o8.need, o8.got⟩ : Oquorum_asking_api_Ver)), z1.2)))))
def m_span_Right_b1 (f4 : Span → Option Bool) (i5 : Nat) (ei5 : Span) : Span → Option Bool := fun x2 =>
 (bif (((((((decide (ei5.s < 1)) || (decide (16 < ei5.s))) || (decide (ei5.f < 1))) || (decide (ei5.t < ei5.f))) || (decide (4611686018427387904 < ei5.t))) || (decide (ei5.s < x2.s))) || ((ei5.s == x2.s) && (decide (ei5.f ≤ (w64 (x2.t + 1)))))) then
 (some false)
 else
 (f4 ei5))
def m_span_Right (l : List Span) : Option Bool :=
 (forI (m_span_Right_b1) (fun x2 =>
 (some (decide (((l.length : Nat) : Int) ≤ 1024)))) 0 l (⟨0, 0, 0⟩ : Span))
def m_span_Top_j6 (f3 : Int → Option Int) (top_10 : Int) : Option Int :=
 (f3 top_10)
def m_span_Top_b5 (s_ : Int) (f3 : Int → Option Int) (i4 : Nat) (ei4 : Span) : Int → Option Int := fun top_1 =>
 (bif (ei4.s == s_) then
 (m_span_Top_j6 f3 (max top_1 ei4.t))
 else
 (m_span_Top_j6 f3 top_1))
def m_span_Top (l : List Span) (s_ : Int) : Option Int :=
 (forI (m_span_Top_b5 s_) (fun top_1 =>
 (some top_1)) 0 l 0)
def m_vers_RightOne (v_ : Ver) : Option Bool :=
 (Option.bind (m_span_Right [(⟨v_.dot.s, v_.dot.n, v_.dot.n⟩ : Span)]) fun z6 => (Option.bind (gcall z6 (m_span_Right v_.past)) fun z11 => (Option.bind (gcall (z6 && z11) (m_span_Top v_.past v_.dot.s)) fun z22 => (some ((((z6 && z11) && (decide (z22 < v_.dot.n))) && (decide (((v_.val.size : Nat) : Int) ≤ 256))) && ((!v_.gone) || (v_.val == ByteArray.empty)))))))
def m_vers_before (a : Dot) (b : Dot) : Option Bool :=
 (some ((decide (a.s < b.s)) || ((a.s == b.s) && (decide (a.n < b.n)))))
def m_span_Has_b1 (d : Dot) (f2 : Unit → Option Bool) (i3 : Nat) (ei3 : Span) : Unit → Option Bool := fun _ =>
 (bif (((ei3.s == d.s) && (decide (ei3.f ≤ d.n))) && (decide (d.n ≤ ei3.t))) then
 (some true)
 else
 (f2 ()))
def m_span_Has (l : List Span) (d : Dot) : Option Bool :=
 (forI (m_span_Has_b1 d) (fun _ =>
 (some false)) 0 l ())
def m_vers_behind_b1 (d : Dot) (f2 : Unit → Option Bool) (i3 : Nat) (ei3 : Ver) : Unit → Option Bool := fun _ =>
 (Option.bind (m_span_Has (ei3.past) d) fun z13 => (bif z13 then
 (some true)
 else
 (f2 ())))
def m_vers_behind (d : Dot) (l : List Ver) : Option Bool :=
 (forI (m_vers_behind_b1 d) (fun _ =>
 (some false)) 0 l ())
def m_vers_Right_b1 (l : List Ver) (f1 : Unit → Option Bool) (i2 : Nat) (ei2 : Ver) : Unit → Option Bool := fun _ =>
 (Option.bind (m_vers_RightOne ei2) fun z12 => (chk (imp ((!(!z12)) && (decide (0 < ((i2 : Nat) : Int)))) (inb (w64 (((i2 : Nat) : Int) - 1)) l.length)) (Option.bind (gcall ((!(!z12)) && (decide (0 < ((i2 : Nat) : Int)))) (m_vers_before ((gt l ((w64 (((i2 : Nat) : Int) - 1)).toNat)).dot) (ei2.dot))) fun z30 => (Option.bind (gcall (!((!z12) || ((decide (0 < ((i2 : Nat) : Int))) && (!z30)))) (m_vers_behind (ei2.dot) l)) fun z38 => (bif (((!z12) || ((decide (0 < ((i2 : Nat) : Int))) && (!z30))) || z38) then
 (some false)
 else
 (f1 ()))))))
def m_vers_Right (l : List Ver) : Option Bool :=
 (forI (m_vers_Right_b1 l) (fun _ =>
 (some (decide (((l.length : Nat) : Int) ≤ 512)))) 0 l ())
def m_vers_clone_api_Span (l : List Span) : Option (List Span) :=
 (chk (decide (0 + l.length ≤ lim)) (some l))
def m_vers_Merge_1 (v_ : Ver) (b0v : List Ver) (b1v : List Ver) (b2v : List Ver) : Option (List Ver) :=
 (Option.bind (m_vers_behind v_.dot b0v) fun z2 => (Option.bind (gcall (!z2) (m_vers_behind v_.dot b1v)) fun z8 => (bif ((!z2) && (!z8)) then
 (Option.bind (m_vers_clone_api_Span v_.past) fun z12 => (chk (decide (b2v.length + 1 ≤ lim)) (some (b2v ++ [(⟨(⟨v_.dot.s, v_.dot.n⟩ : Dot), z12, v_.gone, v_.val⟩ : Ver)]))))
 else
 (some b2v))))
def m_vers_same_b1 (b : Ver) (f21 : Unit → Option Bool) (i22 : Nat) (ei22 : Span) : Unit → Option Bool := fun _ =>
 (chk (decide (i22 < b.past.length)) (bif (ei22 != (gt b.past i22)) then
 (some false)
 else
 (f21 ())))
def m_vers_same (a : Ver) (b : Ver) : Option Bool :=
 (bif ((((a.dot != b.dot) || (a.gone != b.gone)) || (a.val != b.val)) || (((a.past.length : Nat) : Int) != ((b.past.length : Nat) : Int))) then
 (some false)
 else
 (forI (m_vers_same_b1 b) (fun _ =>
 (some true)) 0 a.past ()))
def m_vers_Merge_b1 (a : List Ver) (b : List Ver) (f24 : Bool × Int × Int × (List Ver) → Option ((List Ver) × Int)) : Bool × Int × Int × (List Ver) → Option ((List Ver) × Int) := fun (twin_14, i_15, k_17, x19) =>
 (bif ((decide (i_15 < ((a.length : Nat) : Int))) || (decide (k_17 < ((b.length : Nat) : Int)))) then
 (chk (imp ((!(k_17 == ((b.length : Nat) : Int))) && (decide (i_15 < ((a.length : Nat) : Int)))) (inb i_15 a.length)) (chk (imp ((!(k_17 == ((b.length : Nat) : Int))) && (decide (i_15 < ((a.length : Nat) : Int)))) (inb k_17 b.length)) (Option.bind (gcall ((!(k_17 == ((b.length : Nat) : Int))) && (decide (i_15 < ((a.length : Nat) : Int)))) (m_vers_before ((gt a i_15.toNat).dot) ((gt b k_17.toNat).dot))) fun z57 => (bif ((k_17 == ((b.length : Nat) : Int)) || ((decide (i_15 < ((a.length : Nat) : Int))) && z57)) then
 (chk (inb i_15 a.length) (Option.bind (m_vers_Merge_1 (gt a i_15.toNat) a b x19) fun z62 => (f24 (twin_14, (w64 (i_15 + 1)), k_17, z62))))
 else
 (chk (imp (decide (i_15 < ((a.length : Nat) : Int))) (inb i_15 a.length)) (chk (imp (decide (i_15 < ((a.length : Nat) : Int))) (inb k_17 b.length)) (bif ((decide (i_15 < ((a.length : Nat) : Int))) && ((gt a i_15.toNat).dot == (gt b k_17.toNat).dot)) then
 (chk (imp (!twin_14) (inb i_15 a.length)) (chk (imp (!twin_14) (inb k_17 b.length)) (Option.bind (gcall (!twin_14) (m_vers_same (gt a i_15.toNat) (gt b k_17.toNat))) fun z97 => (f24 ((twin_14 || (!z97)), (w64 (i_15 + 1)), k_17, x19)))))
 else
 (chk (inb k_17 b.length) (Option.bind (m_vers_Merge_1 (gt b k_17.toNat) a b x19) fun z101 => (f24 (twin_14, i_15, (w64 (k_17 + 1)), z101)))))))))))
 else
 (bif twin_14 then
 (some ([], 50))
 else
 (bif (decide (512 < ((x19.length : Nat) : Int))) then
 (some ([], 3))
 else
 (some (x19, 0)))))
def m_vers_Merge (a : List Ver) (b : List Ver) : Option ((List Ver) × Int) :=
 (Option.bind (m_vers_Right a) fun z3 => (Option.bind (gcall (!(!z3)) (m_vers_Right b)) fun z7 => (bif ((!z3) || (!z7)) then
 (some ([], 1))
 else
 (loopN (m_vers_Merge_b1 a b) FU (false, 0, 0, [])))))
def m_quorum_asking_api_Ver_count (a : Oquorum_asking_api_Ver) (node : Int) (x_ : List Ver) : Option (Oquorum_asking_api_Ver × Bool) :=
 (Option.bind (gcall (!((mget node a.got).isSome)) (m_slices_Contains_int_int a.list node)) fun z15 => (bif (((mget node a.got).isSome) || (!z15)) then
 (some (a, false))
 else
 (some ((⟨a.list, a.need, (mput node x_ a.got)⟩ : Oquorum_asking_api_Ver), true))))
def m_quorum_Read_Got (r_ : Oquorum_asking_api_Ver) (node : Int) (l : List Ver) : Option (Oquorum_asking_api_Ver × Bool) :=
 (Option.bind (m_vers_Merge l []) fun z1 => (bif (z1.2 == 0) then
 (Option.bind (m_quorum_asking_api_Ver_count r_ node z1.1) fun z23 => (some (z23.1, z23.2)))
 else
 (some (r_, false))))
def m_quorum_Read_Vers_j6 (f10 : List Ver → Option (List Ver)) (out_19 : List Ver) : Option (List Ver) :=
 (f10 out_19)
def m_quorum_Read_Vers_b5 (r_ : Oquorum_asking_api_Ver) (f10 : List Ver → Option (List Ver)) (i11 : Nat) (ei11 : Int) : List Ver → Option (List Ver) := fun out_5 =>
 (Option.bind (m_vers_Merge out_5 ((mget ei11 r_.got).getD [])) fun z32 => (bif (z32.2 == 0) then
 (m_quorum_Read_Vers_j6 f10 z32.1)
 else
 (m_quorum_Read_Vers_j6 f10 out_5)))
def m_quorum_Read_Vers (r_ : Oquorum_asking_api_Ver) : Option (List Ver) :=
 (forI (m_quorum_Read_Vers_b5 r_) (fun out_5 =>
 (some out_5)) 0 r_.list [])
def m_vers_Same_b1 (a : List Ver) (b : List Ver) (f1 : Unit → Option Bool) (i2 : Nat) : Unit → Option Bool := fun _ =>
 (chk (decide (i2 < a.length)) (chk (decide (i2 < b.length)) (Option.bind (m_vers_same (gt a i2) (gt b i2)) fun z16 => (bif (!z16) then
 (some false)
 else
 (f1 ())))))
def m_vers_Same (a : List Ver) (b : List Ver) : Option Bool :=
 (forU (m_vers_Same_b1 a b) (fun _ =>
 (some (((a.length : Nat) : Int) == ((b.length : Nat) : Int)))) ((min ((a.length : Nat) : Int) ((b.length : Nat) : Int)).toNat) 0 ())
def m_vers_Lacks (a : List Ver) (b : List Ver) : Option Bool :=
 (Option.bind (m_vers_Merge a b) fun z1 => (Option.bind (gcall (z1.2 == 0) (m_vers_Same z1.1 a)) fun z15 => (some ((z1.2 == 0) && (!z15)))))
def m_quorum_Read_Behind_j5 (f18 : List Int → Option (List Int)) (out_25 : List Int) : Option (List Int) :=
 (f18 out_25)
def m_quorum_Read_Behind_b4 (r_ : Oquorum_asking_api_Ver) (z1 : List Ver) (f18 : List Int → Option (List Int)) (i19 : Nat) (ei19 : Int) : List Int → Option (List Int) := fun out_13 =>
 (Option.bind (gcall ((mget ei19 r_.got).isSome) (m_vers_Lacks ((mget ei19 r_.got).getD []) z1)) fun z41 => (bif (((mget ei19 r_.got).isSome) && z41) then
 (chk (decide (out_13.length + 1 ≤ lim)) (m_quorum_Read_Behind_j5 f18 (out_13 ++ [ei19])))
 else
 (m_quorum_Read_Behind_j5 f18 out_13)))
def m_quorum_Read_Behind (r_ : Oquorum_asking_api_Ver) : Option (List Int) :=
 (Option.bind (m_quorum_Read_Vers r_) fun z1 => (forI (m_quorum_Read_Behind_b4 r_ z1) (fun out_13 =>
 (some out_13)) 0 r_.list []))
def m_quorum_asking_api_Ver_Done (a : Oquorum_asking_api_Ver) : Option Bool :=
 (some (decide (a.need ≤ ((a.got.length : Nat) : Int))))
def m_quorum_Read_Done (r_ : Oquorum_asking_api_Ver) : Option Bool :=
 (Option.bind (m_quorum_asking_api_Ver_Done r_) fun z1 => (some z1))
def m_firthref03_Same_b1 (b : List Span) (f2 : Unit → Option Bool) (i3 : Nat) (ei3 : Span) : Unit → Option Bool := fun _ =>
 (chk (decide (i3 < b.length)) (bif (ei3 != (gt b i3)) then
 (some false)
 else
 (f2 ())))
def m_firthref03_Same (a : List Span) (b : List Span) : Option Bool :=
 (bif (((a.length : Nat) : Int) != ((b.length : Nat) : Int)) then
 (some false)
 else
 (forI (m_firthref03_Same_b1 b) (fun _ =>
 (some true)) 0 a ()))
def m_firthref05_SameOne (a : Ver) (b : Ver) : Option Bool :=
 (Option.bind (gcall (((a.dot == b.dot) && (a.gone == b.gone)) && (a.val == b.val)) (m_firthref03_Same a.past b.past)) fun z18 => (some ((((a.dot == b.dot) && (a.gone == b.gone)) && (a.val == b.val)) && z18)))
def m_firthref05_Same_b1 (b : List Ver) (f2 : Unit → Option Bool) (i3 : Nat) (ei3 : Ver) : Unit → Option Bool := fun _ =>
 (chk (decide (i3 < b.length)) (Option.bind (m_firthref05_SameOne ei3 (gt b i3)) fun z16 => (bif (!z16) then
 (some false)
 else
 (f2 ()))))
def m_firthref05_Same (a : List Ver) (b : List Ver) : Option Bool :=
 (bif (((a.length : Nat) : Int) != ((b.length : Nat) : Int)) then
 (some false)
 else
 (forI (m_firthref05_Same_b1 b) (fun _ =>
 (some true)) 0 a ()))
def m_firthlaw16_awake  : Option Bool :=
 (Option.bind (m_quorum_NewWrite [3, 1, 2] 2) fun z8 => (bif (!((Option.isNone z8.1) || (z8.2 != 0))) then
 (Option.bind z8.1 fun z22 => (Option.bind (m_quorum_Write_Ack z22 1) fun z25 => (bif (!(!z25.2)) then
 (Option.bind (m_quorum_Write_Ack z25.1 1) fun z35 => (bif (!z35.2) then
 (Option.bind (m_quorum_Write_Ack z35.1 4) fun z45 => (Option.bind (gcall (!z45.2) (m_quorum_Write_Done z45.1)) fun z55 => (bif (!(z45.2 || z55)) then
 (Option.bind (m_quorum_Write_Ack z45.1 3) fun z59 => (bif (!z59.2) then
 (some false)
 else
 (Option.bind (m_quorum_Write_Waits z59.1) fun z68 => (Option.bind (m_quorum_NewRead [1, 2] 2) fun z85 => (bif ((Option.isNone z85.1) || (z85.2 != 0)) then
 (some false)
 else
 (Option.bind z85.1 fun z98 => (Option.bind (m_quorum_Read_Got z98 1 [(⟨(⟨1, 1⟩ : Dot), [], false, ByteArray.empty⟩ : Ver)]) fun z108 => (Option.bind (m_quorum_Read_Got z108.1 2 []) fun z116 => (Option.bind (m_quorum_Read_Behind z116.1) fun z124 => (Option.bind (m_quorum_Write_Done z59.1) fun z134 => (chk (imp (z134 && (((z68.length : Nat) : Int) == 1)) (decide (0 < z68.length))) (Option.bind (gcall ((z134 && (((z68.length : Nat) : Int) == 1)) && ((gt z68 0) == 2)) (m_quorum_Read_Done z116.1)) fun z146 => (bif (((z134 && (((z68.length : Nat) : Int) == 1)) && ((gt z68 0) == 2)) && z146) then
 (Option.bind (m_quorum_Read_Vers z116.1) fun z150 => (Option.bind (m_firthref05_Same z150 [(⟨(⟨1, 1⟩ : Dot), [], false, ByteArray.empty⟩ : Ver)]) fun z160 => (chk (imp (z160 && (((z124.length : Nat) : Int) == 1)) (decide (0 < z124.length))) (some ((z160 && (((z124.length : Nat) : Int) == 1)) && ((gt z124 0) == 2))))))
 else
 (some false))))))))))))))
 else
 (some false))))
 else
 (some false)))
 else
 (some false))))
 else
 (some false)))
def m_firthref12_In_b1 (n : Int) (f1 : Unit → Option Bool) (i2 : Nat) (ei2 : Int) : Unit → Option Bool := fun _ =>
 (bif (ei2 == n) then
 (some true)
 else
 (f1 ()))
def m_firthref12_In (l : List Int) (n : Int) : Option Bool :=
 (forI (m_firthref12_In_b1 n) (fun _ =>
 (some false)) 0 l ())
def m_firthref16_Right_b1 (list : List Int) (f11 : Unit → Option Bool) (i12 : Nat) (ei12 : Int) : Unit → Option Bool := fun _ =>
 (Option.bind (gcall (!((decide (ei12 < 1)) || (decide (8 < ei12)))) (m_firthref12_In (List.take i12 list) ei12)) fun z31 => (bif (((decide (ei12 < 1)) || (decide (8 < ei12))) || z31) then
 (some false)
 else
 (f11 ())))
def m_firthref16_Right (list : List Int) (need : Int) : Option Bool :=
 (bif ((((((list.length : Nat) : Int) == 0) || (decide (8 < ((list.length : Nat) : Int)))) || (decide (need < 1))) || (decide (((list.length : Nat) : Int) < need))) then
 (some false)
 else
 (forI (m_firthref16_Right_b1 list) (fun _ =>
 (some true)) 0 list ()))
def m_firthref16_New (list : List Int) (need : Int) : Option Ofirthref16_Ask :=
 (chk (decide (list.length ≤ lim)) (chk (decide (0 + list.length ≤ lim)) (some (⟨list, need, (List.replicate list.length false), (List.replicate list.length []), (List.replicate list.length [])⟩ : Ofirthref16_Ask))))
def m_firthref16_Ask_place_b1 (a : Ofirthref16_Ask) (node : Int) (f1 : Unit → Option Int) (i2 : Nat) (ei2 : Int) : Unit → Option Int := fun _ =>
 (chk (imp (ei2 == node) (decide (i2 < a.in_.length))) (bif ((ei2 == node) && (!(gt a.in_ i2))) then
 (some ((i2 : Nat) : Int))
 else
 (f1 ())))
def m_firthref16_Ask_place (a : Ofirthref16_Ask) (node : Int) : Option Int :=
 (forI (m_firthref16_Ask_place_b1 a node) (fun _ =>
 (some (-1))) 0 a.list ())
def m_firthref16_Ask_Ack_j1 (z1 : Int) (o3 : Ofirthref16_Ask) : Option (Ofirthref16_Ask × Bool) :=
 (some (o3, (decide (0 ≤ z1))))
def m_firthref16_Ask_Ack (a : Ofirthref16_Ask) (node : Int) : Option (Ofirthref16_Ask × Bool) :=
 (Option.bind (m_firthref16_Ask_place a node) fun z1 => (bif (decide (0 ≤ z1)) then
 (chk (inb z1 a.in_.length) (m_firthref16_Ask_Ack_j1 z1 (⟨a.list, a.need, (List.set a.in_ z1.toNat true), a.vers, a.recs⟩ : Ofirthref16_Ask)))
 else
 (m_firthref16_Ask_Ack_j1 z1 a)))
def m_firthref16_Ask_Waits_j5 (f6 : List Int → Option (List Int)) (out_15 : List Int) : Option (List Int) :=
 (f6 out_15)
def m_firthref16_Ask_Waits_b4 (a : Ofirthref16_Ask) (f6 : List Int → Option (List Int)) (i7 : Nat) (ei7 : Int) : List Int → Option (List Int) := fun out_1 =>
 (chk (decide (i7 < a.in_.length)) (bif (!(gt a.in_ i7)) then
 (chk (decide (out_1.length + 1 ≤ lim)) (m_firthref16_Ask_Waits_j5 f6 (out_1 ++ [ei7])))
 else
 (m_firthref16_Ask_Waits_j5 f6 out_1)))
def m_firthref16_Ask_Waits (a : Ofirthref16_Ask) : Option (List Int) :=
 (forI (m_firthref16_Ask_Waits_b4 a) (fun out_1 =>
 (some out_1)) 0 a.list [])
def m_firthref16_Ask_Done (a : Ofirthref16_Ask) : Option Bool :=
 (Option.bind (m_firthref16_Ask_Waits a) fun z4 => (some (decide (a.need ≤ (w64 (((a.list.length : Nat) : Int) - ((z4.length : Nat) : Int)))))))
def m_firthref06_Ints_b1 (b : List Int) (f2 : Unit → Option Bool) (i3 : Nat) (ei3 : Int) : Unit → Option Bool := fun _ =>
 (chk (decide (i3 < b.length)) (bif (ei3 != (gt b i3)) then
 (some false)
 else
 (f2 ())))
def m_firthref06_Ints (a : List Int) (b : List Int) : Option Bool :=
 (bif (((a.length : Nat) : Int) != ((b.length : Nat) : Int)) then
 (some false)
 else
 (forI (m_firthref06_Ints_b1 b) (fun _ =>
 (some true)) 0 a ()))
def m_firthlaw16_QuorumWrites_b1 (f49 : Ofirthref16_Ask × Oquorum_asking_bool → Option Bool) (i50 : Nat) (ei50 : Int) : Ofirthref16_Ask × Oquorum_asking_bool → Option Bool := fun (o43, o46) =>
 (Option.bind (m_quorum_Write_Ack o46 ei50) fun z57 => (Option.bind (m_firthref16_Ask_Ack o43 ei50) fun z65 => (Option.bind (gcall (!(z57.2 != z65.2)) (m_quorum_Write_Done z57.1)) fun z76 => (bif (!(z57.2 != z65.2)) then
 (Option.bind (m_firthref16_Ask_Done z65.1) fun z79 => (bif (!(z76 != z79)) then
 (Option.bind (m_quorum_Write_Waits z57.1) fun z89 => (Option.bind (m_firthref16_Ask_Waits z65.1) fun z99 => (Option.bind (gcall (!(z76 != z79)) (m_firthref06_Ints z89 z99)) fun z110 => (bif (!z110) then
 (some false)
 else
 (f49 (z65.1, z57.1))))))
 else
 (some false)))
 else
 (some false)))))
def m_firthlaw16_QuorumWrites (list : List Int) (need : Int) (acks : List Int) : Option Bool :=
 (Option.bind (m_quorum_NewWrite list need) fun z1 => (Option.bind (m_firthlaw16_awake) fun z11 => (Option.bind (gcall (!(!z11)) (m_firthref16_Right list need)) fun z16 => (bif ((!z11) || (!z16)) then
 (Option.bind (m_firthlaw16_awake) fun z20 => (some ((z20 && (Option.isNone z1.1)) && (z1.2 == 1))))
 else
 (bif ((Option.isNone z1.1) || (z1.2 != 0)) then
 (some false)
 else
 (Option.bind z1.1 fun z29 => (Option.bind (m_firthref16_New list need) fun z32 => (forI (m_firthlaw16_QuorumWrites_b1) (fun (o43, o46) =>
 (some true)) 0 acks (z32, z29)))))))))
def m_firthref03_Dot (d : Dot) : Option Bool :=
 (some ((((decide (1 ≤ d.s)) && (decide (d.s ≤ 16))) && (decide (1 ≤ d.n))) && (decide (d.n ≤ 4611686018427387904))))
def m_firthref03_Right_b1 (l : List Span) (f2 : Unit → Option Bool) (i3 : Nat) (ei3 : Span) : Unit → Option Bool := fun _ =>
 (Option.bind (m_firthref03_Dot (⟨ei3.s, ei3.f⟩ : Dot)) fun z9 => (Option.bind (gcall (!(!z9)) (m_firthref03_Dot (⟨ei3.s, ei3.t⟩ : Dot))) fun z23 => (bif (((!z9) || (!z23)) || (decide (ei3.t < ei3.f))) then
 (some false)
 else
 (chk (imp (decide (0 < ((i3 : Nat) : Int))) (inb (w64 (((i3 : Nat) : Int) - 1)) l.length)) (bif ((decide (0 < ((i3 : Nat) : Int))) && ((decide (ei3.s < (gt l ((w64 (((i3 : Nat) : Int) - 1)).toNat)).s)) || ((ei3.s == (gt l ((w64 (((i3 : Nat) : Int) - 1)).toNat)).s) && (decide ((w64 (ei3.f - 1)) ≤ (gt l ((w64 (((i3 : Nat) : Int) - 1)).toNat)).t))))) then
 (some false)
 else
 (f2 ()))))))
def m_firthref03_Right (l : List Span) : Option Bool :=
 (bif (decide (1024 < ((l.length : Nat) : Int))) then
 (some false)
 else
 (forI (m_firthref03_Right_b1 l) (fun _ =>
 (some true)) 0 l ()))
def m_firthref03_Top_j6 (f3 : Int → Option Int) (n_10 : Int) : Option Int :=
 (f3 n_10)
def m_firthref03_Top_b5 (s_ : Int) (f3 : Int → Option Int) (i4 : Nat) (ei4 : Span) : Int → Option Int := fun n_1 =>
 (bif ((ei4.s == s_) && (decide (n_1 < ei4.t))) then
 (m_firthref03_Top_j6 f3 (ei4.t))
 else
 (m_firthref03_Top_j6 f3 n_1))
def m_firthref03_Top (l : List Span) (s_ : Int) : Option Int :=
 (forI (m_firthref03_Top_b5 s_) (fun n_1 =>
 (some n_1)) 0 l 0)
def m_firthref05_RightOne (v_ : Ver) : Option Bool :=
 (Option.bind (m_firthref03_Dot v_.dot) fun z2 => (Option.bind (gcall (!(!z2)) (m_firthref03_Right v_.past)) fun z7 => (Option.bind (gcall (!((!z2) || (!z7))) (m_firthref03_Top v_.past v_.dot.s)) fun z16 => (bif (((!z2) || (!z7)) || (decide (v_.dot.n ≤ z16))) then
 (some false)
 else
 (bif v_.gone then
 (some (v_.val == ByteArray.empty))
 else
 (some (decide (((v_.val.size : Nat) : Int) ≤ 256))))))))
def m_firthref03_Has_b1 (d : Dot) (f2 : Unit → Option Bool) (i3 : Nat) (ei3 : Span) : Unit → Option Bool := fun _ =>
 (bif (((ei3.s == d.s) && (decide (ei3.f ≤ d.n))) && (decide (d.n ≤ ei3.t))) then
 (some true)
 else
 (f2 ()))
def m_firthref03_Has (l : List Span) (d : Dot) : Option Bool :=
 (forI (m_firthref03_Has_b1 d) (fun _ =>
 (some false)) 0 l ())
def m_firthref05_Behind_b1 (d : Dot) (f2 : Unit → Option Bool) (i3 : Nat) (ei3 : Ver) : Unit → Option Bool := fun _ =>
 (Option.bind (m_firthref03_Has (ei3.past) d) fun z12 => (bif z12 then
 (some true)
 else
 (f2 ())))
def m_firthref05_Behind (l : List Ver) (d : Dot) : Option Bool :=
 (forI (m_firthref05_Behind_b1 d) (fun _ =>
 (some false)) 0 l ())
def m_firthref05_Less (a : Dot) (b : Dot) : Option Bool :=
 (bif (a.s != b.s) then
 (some (decide (a.s < b.s)))
 else
 (some (decide (a.n < b.n))))
def m_firthref05_Right_b1 (l : List Ver) (f2 : Unit → Option Bool) (i3 : Nat) (ei3 : Ver) : Unit → Option Bool := fun _ =>
 (Option.bind (m_firthref05_RightOne ei3) fun z12 => (Option.bind (gcall (!(!z12)) (m_firthref05_Behind l (ei3.dot))) fun z21 => (bif ((!z12) || z21) then
 (some false)
 else
 (chk (imp (decide (0 < ((i3 : Nat) : Int))) (inb (w64 (((i3 : Nat) : Int) - 1)) l.length)) (Option.bind (gcall (decide (0 < ((i3 : Nat) : Int))) (m_firthref05_Less ((gt l ((w64 (((i3 : Nat) : Int) - 1)).toNat)).dot) (ei3.dot))) fun z40 => (bif ((decide (0 < ((i3 : Nat) : Int))) && (!z40)) then
 (some false)
 else
 (f2 ())))))))
def m_firthref05_Right (l : List Ver) : Option Bool :=
 (bif (decide (512 < ((l.length : Nat) : Int))) then
 (some false)
 else
 (forI (m_firthref05_Right_b1 l) (fun _ =>
 (some true)) 0 l ()))
def m_firthref10_Own_b1 (f11 : List Ver → Option Rec) (i12 : Nat) (ei12 : Ver) : List Ver → Option Rec := fun x6 =>
 (chk (decide (0 + (ei12.past).length ≤ lim)) (chk (decide (x6.length + 1 ≤ lim)) (f11 (x6 ++ [ei12]))))
def m_firthref10_Own (r_ : Rec) : Option Rec :=
 (forI (m_firthref10_Own_b1) (fun x6 =>
 (some (⟨r_.key, x6⟩ : Rec))) 0 r_.vers [])
def m_firthref16_Ask_GotVers (a : Ofirthref16_Ask) (node : Int) (l : List Ver) : Option (Ofirthref16_Ask × Bool) :=
 (Option.bind (m_firthref16_Ask_place a node) fun z1 => (Option.bind (gcall (!(decide (z1 < 0))) (m_firthref05_Right l)) fun z5 => (bif ((decide (z1 < 0)) || (!z5)) then
 (some (a, false))
 else
 (chk (inb z1 a.in_.length) (Option.bind (m_firthref10_Own (⟨ByteArray.empty, l⟩ : Rec)) fun z14 => (chk (inb z1 a.vers.length) (some ((⟨a.list, a.need, (List.set a.in_ z1.toNat true), (List.set a.vers z1.toNat z14.vers), a.recs⟩ : Ofirthref16_Ask), true))))))))
def m_quorum_asking_api_Ver_Waits_j5 (f8 : List Int → Option (List Int)) (out_15 : List Int) : Option (List Int) :=
 (f8 out_15)
def m_quorum_asking_api_Ver_Waits_b4 (a : Oquorum_asking_api_Ver) (f8 : List Int → Option (List Int)) (i9 : Nat) (ei9 : Int) : List Int → Option (List Int) := fun out_3 =>
 (bif (!((mget ei9 a.got).isSome)) then
 (chk (decide (out_3.length + 1 ≤ lim)) (m_quorum_asking_api_Ver_Waits_j5 f8 (out_3 ++ [ei9])))
 else
 (m_quorum_asking_api_Ver_Waits_j5 f8 out_3))
def m_quorum_asking_api_Ver_Waits (a : Oquorum_asking_api_Ver) : Option (List Int) :=
 (forI (m_quorum_asking_api_Ver_Waits_b4 a) (fun out_3 =>
 (some out_3)) 0 a.list [])
def m_quorum_Read_Waits (r_ : Oquorum_asking_api_Ver) : Option (List Int) :=
 (Option.bind (m_quorum_asking_api_Ver_Waits r_) fun z1 => (some z1))
def m_firthref05_put_b1 (l : List Ver) (v_ : Ver) (f4 : Int → Option (List Ver)) : Int → Option (List Ver) := fun at_2 =>
 (chk (imp (decide (at_2 < ((l.length : Nat) : Int))) (inb at_2 l.length)) (Option.bind (gcall (decide (at_2 < ((l.length : Nat) : Int))) (m_firthref05_Less ((gt l at_2.toNat).dot) v_.dot)) fun z20 => (bif ((decide (at_2 < ((l.length : Nat) : Int))) && z20) then
 (f4 (w64 (at_2 + 1)))
 else
 (bif ((decide (at_2 < ((l.length : Nat) : Int))) && ((gt l at_2.toNat).dot == v_.dot)) then
 (some l)
 else
 (chk (inle at_2 l.length) (chk (decide (0 + (List.take at_2.toNat l).length ≤ lim)) (chk (decide ((List.take at_2.toNat l).length + 1 ≤ lim)) (chk (decide (((List.take at_2.toNat l) ++ [v_]).length + (List.drop at_2.toNat l).length ≤ lim)) (some (((List.take at_2.toNat l) ++ [v_]) ++ (List.drop at_2.toNat l)))))))))))
def m_firthref05_put (l : List Ver) (v_ : Ver) : Option (List Ver) :=
 (loopN (m_firthref05_put_b1 l v_) FU 0)
def m_firthref05_Merge_b5 (a : List Ver) (i10 : Nat) (f16 : Unit → Option ((List Ver) × Int)) (i17 : Nat) (ei17 : Ver) : Unit → Option ((List Ver) × Int) := fun _ =>
 (Option.bind (gcall ((gt a i10).dot == ei17.dot) (m_firthref05_SameOne (gt a i10) ei17)) fun z38 => (bif (((gt a i10).dot == ei17.dot) && (!z38)) then
 (some ([], 50))
 else
 (f16 ())))
def m_firthref05_Merge_j10 (f49 : List Ver → Option ((List Ver) × Int)) (out_58 : List Ver) : Option ((List Ver) × Int) :=
 (f49 out_58)
def m_firthref05_Merge_j15 (f86 : List Ver → Option ((List Ver) × Int)) (out_95 : List Ver) : Option ((List Ver) × Int) :=
 (f86 out_95)
def m_firthref05_Merge_b14 (a : List Ver) (f86 : List Ver → Option ((List Ver) × Int)) (i87 : Nat) (ei87 : Ver) : List Ver → Option ((List Ver) × Int) := fun out_81 =>
 (Option.bind (m_firthref05_Behind a (ei87.dot)) fun z103 => (bif (!z103) then
 (Option.bind (m_firthref05_put out_81 ei87) fun z106 => (m_firthref05_Merge_j15 f86 z106))
 else
 (m_firthref05_Merge_j15 f86 out_81)))
def m_firthref05_Merge_b9 (b : List Ver) (f49 : List Ver → Option ((List Ver) × Int)) (i50 : Nat) (ei50 : Ver) : List Ver → Option ((List Ver) × Int) := fun out_44 =>
 (Option.bind (m_firthref05_Behind b (ei50.dot)) fun z66 => (bif (!z66) then
 (Option.bind (m_firthref05_put out_44 ei50) fun z69 => (m_firthref05_Merge_j10 f49 z69))
 else
 (m_firthref05_Merge_j10 f49 out_44)))
def m_firthref05_Merge_b4 (a : List Ver) (b : List Ver) (f9 : Unit → Option ((List Ver) × Int)) (i10 : Nat) (ei10 : Ver) : Unit → Option ((List Ver) × Int) := fun _ =>
 (forI (m_firthref05_Merge_b5 a i10) (fun _ =>
 (f9 ())) 0 b ())
def m_firthref05_Merge (a : List Ver) (b : List Ver) : Option ((List Ver) × Int) :=
 (Option.bind (m_firthref05_Right a) fun z1 => (Option.bind (gcall (!(!z1)) (m_firthref05_Right b)) fun z5 => (bif ((!z1) || (!z5)) then
 (some ([], 1))
 else
 (forI (m_firthref05_Merge_b4 a b) (fun _ =>
 (forI (m_firthref05_Merge_b9 b) (fun out_44 =>
 (forI (m_firthref05_Merge_b14 a) (fun out_81 =>
 (bif (decide (512 < ((out_81.length : Nat) : Int))) then
 (some ([], 3))
 else
 (some (out_81, 0)))) 0 b out_44)) 0 a [])) 0 a ()))))
def m_firthref16_Ask_All_j5 (f8 : List Ver → Option (List Ver)) (out_19 : List Ver) : Option (List Ver) :=
 (f8 out_19)
def m_firthref16_Ask_All_b4 (a : Ofirthref16_Ask) (f8 : List Ver → Option (List Ver)) (i9 : Nat) (ei9 : Int) : List Ver → Option (List Ver) := fun out_3 =>
 (chk (decide (i9 < a.vers.length)) (Option.bind (m_firthref05_Merge out_3 (gt a.vers i9)) fun z29 => (bif (z29.2 == 0) then
 (m_firthref16_Ask_All_j5 f8 z29.1)
 else
 (m_firthref16_Ask_All_j5 f8 out_3))))
def m_firthref16_Ask_All (a : Ofirthref16_Ask) : Option (List Ver) :=
 (forI (m_firthref16_Ask_All_b4 a) (fun out_3 =>
 (some out_3)) 0 a.list [])
def m_firthref05_Lacks (a : List Ver) (b : List Ver) : Option Bool :=
 (Option.bind (m_firthref05_Merge a b) fun z1 => (Option.bind (gcall (z1.2 == 0) (m_firthref05_Same z1.1 a)) fun z15 => (some ((z1.2 == 0) && (!z15)))))
def m_firthref16_Ask_Behind_j5 (f16 : List Int → Option (List Int)) (out_25 : List Int) : Option (List Int) :=
 (f16 out_25)
def m_firthref16_Ask_Behind_b4 (a : Ofirthref16_Ask) (z1 : List Ver) (f16 : List Int → Option (List Int)) (i17 : Nat) (ei17 : Int) : List Int → Option (List Int) := fun out_11 =>
 (chk (decide (i17 < a.in_.length)) (chk (imp (gt a.in_ i17) (decide (i17 < a.vers.length))) (Option.bind (gcall (gt a.in_ i17) (m_firthref05_Lacks (gt a.vers i17) z1)) fun z45 => (bif ((gt a.in_ i17) && z45) then
 (chk (decide (out_11.length + 1 ≤ lim)) (m_firthref16_Ask_Behind_j5 f16 (out_11 ++ [ei17])))
 else
 (m_firthref16_Ask_Behind_j5 f16 out_11)))))
def m_firthref16_Ask_Behind (a : Ofirthref16_Ask) : Option (List Int) :=
 (Option.bind (m_firthref16_Ask_All a) fun z1 => (forI (m_firthref16_Ask_Behind_b4 a z1) (fun out_11 =>
 (some out_11)) 0 a.list []))
def m_firthlaw16_QuorumReads_b1 (f49 : Ofirthref16_Ask × Oquorum_asking_api_Ver → Option Bool) (i50 : Nat) (ei50 : Dfirthlaw16_Reply) : Ofirthref16_Ask × Oquorum_asking_api_Ver → Option Bool := fun (o43, o46) =>
 (Option.bind (m_quorum_Read_Got o46 (ei50.node) (ei50.vers)) fun z62 => (Option.bind (m_firthref16_Ask_GotVers o43 (ei50.node) (ei50.vers)) fun z70 => (Option.bind (gcall (!(z62.2 != z70.2)) (m_quorum_Read_Done z62.1)) fun z81 => (bif (!(z62.2 != z70.2)) then
 (Option.bind (m_firthref16_Ask_Done z70.1) fun z84 => (bif (!(z81 != z84)) then
 (Option.bind (m_quorum_Read_Waits z62.1) fun z94 => (Option.bind (m_firthref16_Ask_Waits z70.1) fun z104 => (Option.bind (gcall (!(z81 != z84)) (m_firthref06_Ints z94 z104)) fun z115 => (bif (!z115) then
 (some false)
 else
 (Option.bind (m_quorum_Read_Vers z62.1) fun z119 => (Option.bind (m_firthref16_Ask_All z70.1) fun z129 => (Option.bind (m_firthref05_Same z119 z129) fun z139 => (bif (!(!z139)) then
 (Option.bind (m_quorum_Read_Behind z62.1) fun z143 => (Option.bind (m_firthref16_Ask_Behind z70.1) fun z153 => (Option.bind (m_firthref06_Ints z143 z153) fun z163 => (bif (!z163) then
 (some false)
 else
 (f49 (z70.1, z62.1))))))
 else
 (some false)))))))))
 else
 (some false)))
 else
 (some false)))))
def m_firthlaw16_QuorumReads (list : List Int) (need : Int) (replies : List Dfirthlaw16_Reply) : Option Bool :=
 (Option.bind (m_quorum_NewRead list need) fun z1 => (Option.bind (m_firthlaw16_awake) fun z11 => (Option.bind (gcall (!(!z11)) (m_firthref16_Right list need)) fun z16 => (bif ((!z11) || (!z16)) then
 (Option.bind (m_firthlaw16_awake) fun z20 => (some ((z20 && (Option.isNone z1.1)) && (z1.2 == 1))))
 else
 (bif ((Option.isNone z1.1) || (z1.2 != 0)) then
 (some false)
 else
 (Option.bind z1.1 fun z29 => (Option.bind (m_firthref16_New list need) fun z32 => (forI (m_firthlaw16_QuorumReads_b1) (fun (o43, o46) =>
 (some true)) 0 replies (z32, z29)))))))))
def m_firthlaw16_under_b5 (a : List Span) (i2 : Nat) (f9 : Bool → Option Bool) (i10 : Nat) (ei10 : Span) : Bool → Option Bool := fun in_8 =>
 (f9 (in_8 || ((((gt a i2).s == ei10.s) && (decide (ei10.f ≤ (gt a i2).f))) && (decide ((gt a i2).t ≤ ei10.t)))))
def m_firthlaw16_under_b4 (a : List Span) (b : List Span) (f1 : Unit → Option Bool) (i2 : Nat) (ei2 : Span) : Unit → Option Bool := fun _ =>
 (forI (m_firthlaw16_under_b5 a i2) (fun in_8 =>
 (bif (!in_8) then
 (some false)
 else
 (f1 ()))) 0 b false)
def m_firthlaw16_under (a : List Span) (b : List Span) : Option Bool :=
 (forI (m_firthlaw16_under_b4 a b) (fun _ =>
 (some true)) 0 a ())
def m_firthlaw16_written_b7 (all_1 : List Ver) (i29 : Nat) (f35 : Unit → Option Bool) (i36 : Nat) (ei36 : Ver) : Unit → Option Bool := fun _ =>
 (Option.bind (gcall ((gt all_1 i29).dot == ei36.dot) (m_firthref05_SameOne (gt all_1 i29) ei36)) fun z57 => (bif (((gt all_1 i29).dot == ei36.dot) && (!z57)) then
 (some false)
 else
 (chk (decide (i29 + 1 ≤ all_1.length)) (Option.bind (m_firthref05_Behind (List.drop i29 (List.take (i29 + 1) all_1)) (ei36.dot)) fun z62 => (chk (imp z62 (decide (i36 + 1 ≤ all_1.length))) (Option.bind (gcall z62 (m_firthref05_Behind (List.drop i36 (List.take (i36 + 1) all_1)) ((gt all_1 i29).dot))) fun z76 => (Option.bind (gcall (z62 && (!z76)) (m_firthlaw16_under (ei36.past) ((gt all_1 i29).past))) fun z90 => (bif (z62 && (z76 || (!z90))) then
 (some false)
 else
 (f35 ())))))))))
def m_firthlaw16_written_b6 (all_1 : List Ver) (f28 : Unit → Option Bool) (i29 : Nat) (ei29 : Ver) : Unit → Option Bool := fun _ =>
 (forI (m_firthlaw16_written_b7 all_1 i29) (fun _ =>
 (f28 ())) 0 all_1 ())
def m_firthlaw16_written_b1 (f6 : List Ver → Option Bool) (i7 : Nat) (ei7 : Dfirthlaw16_Reply) : List Ver → Option Bool := fun all_1 =>
 (chk (decide (all_1.length + (ei7.vers).length ≤ lim)) (f6 (all_1 ++ ei7.vers)))
def m_firthlaw16_written (l : List Dfirthlaw16_Reply) : Option Bool :=
 (forI (m_firthlaw16_written_b1) (fun all_1 =>
 (forI (m_firthlaw16_written_b6 all_1) (fun _ =>
 (some true)) 0 all_1 ())) 0 l [])
def m_firthlaw16_QuorumOrder_j5 (f61 : (List Dfirthlaw16_Reply) × (List Bool) → Option Bool) (some_68 : List Dfirthlaw16_Reply) (x73 : List Bool) : Option Bool :=
 (f61 (some_68, x73))
def m_firthlaw16_QuorumOrder_j14 (some_52 : List Dfirthlaw16_Reply) (o109 : Oquorum_asking_api_Ver) (f115 : Oquorum_asking_api_Ver × Oquorum_asking_api_Ver → Option Bool) (o124 : Oquorum_asking_api_Ver) (k_141 : Int) : Option Bool :=
 (chk (inb k_141 some_52.length) (Option.bind (m_quorum_Read_Got o109 ((gt some_52 k_141.toNat).node) ((gt some_52 k_141.toNat).vers)) fun z155 => (f115 (z155.1, o124))))
def m_firthlaw16_QuorumOrder_j13 (turn : Int) (some_52 : List Dfirthlaw16_Reply) (o109 : Oquorum_asking_api_Ver) (f115 : Oquorum_asking_api_Ver × Oquorum_asking_api_Ver → Option Bool) (i116 : Nat) (o124 : Oquorum_asking_api_Ver) : Option Bool :=
 (bif ((turn.tmod 2) != 0) then
 (chk (((some_52.length : Nat) : Int) != 0) (m_firthlaw16_QuorumOrder_j14 some_52 o109 f115 o124 ((w64 (((i116 : Nat) : Int) + (w64 (((some_52.length : Nat) : Int).tdiv 2)))).tmod ((some_52.length : Nat) : Int))))
 else
 (m_firthlaw16_QuorumOrder_j14 some_52 o109 f115 o124 (w64 ((w64 (((some_52.length : Nat) : Int) - 1)) - ((i116 : Nat) : Int)))))
def m_firthlaw16_QuorumOrder_b12 (turn : Int) (some_52 : List Dfirthlaw16_Reply) (f115 : Oquorum_asking_api_Ver × Oquorum_asking_api_Ver → Option Bool) (i116 : Nat) (ei116 : Dfirthlaw16_Reply) : Oquorum_asking_api_Ver × Oquorum_asking_api_Ver → Option Bool := fun (o109, o112) =>
 (Option.bind (m_quorum_Read_Got o112 (ei116.node) (ei116.vers)) fun z133 => (m_firthlaw16_QuorumOrder_j13 turn some_52 o109 f115 i116 z133.1))
def m_firthlaw16_QuorumOrder_b4 (f61 : (List Dfirthlaw16_Reply) × (List Bool) → Option Bool) (i62 : Nat) (ei62 : Dfirthlaw16_Reply) : (List Dfirthlaw16_Reply) × (List Bool) → Option Bool := fun (some_52, x57) =>
 (chk (imp ((decide (1 ≤ ei62.node)) && (decide (ei62.node ≤ 8))) (inb (ei62.node) 9)) (Option.bind (gcall (((decide (1 ≤ ei62.node)) && (decide (ei62.node ≤ 8))) && (!(gt x57 ((ei62.node).toNat)))) (m_firthref05_Right (ei62.vers))) fun z95 => (bif ((((decide (1 ≤ ei62.node)) && (decide (ei62.node ≤ 8))) && (!(gt x57 ((ei62.node).toNat)))) && z95) then
 (chk (inb (ei62.node) 9) (chk (decide (some_52.length + 1 ≤ lim)) (m_firthlaw16_QuorumOrder_j5 f61 (some_52 ++ [ei62]) (List.set x57 ((ei62.node).toNat) true))))
 else
 (m_firthlaw16_QuorumOrder_j5 f61 some_52 x57))))
def m_firthlaw16_QuorumOrder (list : List Int) (replies : List Dfirthlaw16_Reply) (turn : Int) : Option Bool :=
 (Option.bind (m_firthlaw16_awake) fun z1 => (Option.bind (gcall (!(!z1)) (m_firthref16_Right list ((list.length : Nat) : Int))) fun z6 => (Option.bind (gcall (!((!z1) || (!z6))) (m_firthlaw16_written replies)) fun z11 => (bif (((!z1) || (!z6)) || (!z11)) then
 (Option.bind (m_firthlaw16_awake) fun z15 => (some z15))
 else
 (Option.bind (m_quorum_NewRead list ((list.length : Nat) : Int)) fun z17 => (Option.bind (m_quorum_NewRead list ((list.length : Nat) : Int)) fun z27 => (bif ((((Option.isNone z17.1) || (Option.isNone z27.1)) || (z17.2 != 0)) || (z27.2 != 0)) then
 (some false)
 else
 (Option.bind z27.1 fun z44 => (Option.bind z17.1 fun z47 => (forI (m_firthlaw16_QuorumOrder_b4) (fun (some_52, x57) =>
 (forI (m_firthlaw16_QuorumOrder_b12 turn some_52) (fun (o109, o112) =>
 (Option.bind (m_quorum_Read_Vers o112) fun z163 => (Option.bind (m_quorum_Read_Vers o109) fun z173 => (Option.bind (m_firthref05_Same z163 z173) fun z183 => (bif z183 then
 (Option.bind (m_quorum_Read_Waits o112) fun z187 => (Option.bind (m_quorum_Read_Waits o109) fun z197 => (Option.bind (m_firthref06_Ints z187 z197) fun z207 => (Option.bind (gcall z207 (m_quorum_Read_Done o112)) fun z211 => (Option.bind (gcall z207 (m_quorum_Read_Done o109)) fun z215 => (some (z207 && (z211 == z215))))))))
 else
 (some false)))))) 0 some_52 (z44, z47))) 0 replies ([], (List.replicate 9 false))))))))))))
def m_firthlaw16_has_b1 (v_ : Ver) (f2 : Unit → Option Bool) (i3 : Nat) (ei3 : Ver) : Unit → Option Bool := fun _ =>
 (Option.bind (m_firthref05_SameOne ei3 v_) fun z12 => (bif z12 then
 (some true)
 else
 (f2 ())))
def m_firthlaw16_has (l : List Ver) (v_ : Ver) : Option Bool :=
 (forI (m_firthlaw16_has_b1 v_) (fun _ =>
 (some false)) 0 l ())
def m_firthlaw16_QuorumMeets_j5 (list_53 : List Int) (all_58 : List Dfirthlaw16_Reply) (i_63 : Int) (f69 : (List Int) × (List Dfirthlaw16_Reply) × Int × (List (List Ver)) → Option Bool) (x81 : List (List Ver)) : Option Bool :=
 (chk (inb i_63 9) (chk (decide (all_58.length + 1 ≤ lim)) (f69 ((list_53 ++ [i_63]), (all_58 ++ [(⟨0, (gt x81 i_63.toNat), []⟩ : Dfirthlaw16_Reply)]), (w64 (i_63 + 1)), x81))))
def m_firthlaw16_QuorumMeets_j17 (f179 : Oquorum_asking_bool × (List (List Ver)) → Option Bool) (o188 : Oquorum_asking_bool) (x191 : List (List Ver)) : Option Bool :=
 (f179 (o188, x191))
def m_firthlaw16_QuorumMeets_j19 (m : Dfirthlaw16_Meet) (o172 : Oquorum_asking_bool) (x175 : List (List Ver)) (f179 : Oquorum_asking_bool × (List (List Ver)) → Option Bool) (i180 : Nat) (l_202 : List Ver) (g_207 : Int) : Option Bool :=
 (bif (g_207 != 0) then
 (some true)
 else
 (chk (inb (gt m.took i180) 9) (Option.bind (m_quorum_Write_Ack o172 (gt m.took i180)) fun z236 => (m_firthlaw16_QuorumMeets_j17 f179 z236.1 (List.set x175 ((gt m.took i180).toNat) l_202)))))
def m_firthlaw16_QuorumMeets_j24 (f249 : Oquorum_asking_api_Ver → Option Bool) (o258 : Oquorum_asking_api_Ver) : Option Bool :=
 (f249 o258)
def m_firthlaw16_QuorumMeets_j28 (x_332 : Int) (f334 : Int → Option Bool)  : Option Bool :=
 (f334 (w64 (x_332 + 1)))
def m_firthlaw16_QuorumMeets_b27 (m : Dfirthlaw16_Meet) (x175 : List (List Ver)) (z291 : List Ver) (z310 : List Int) (z320 : List Int) (f334 : Int → Option Bool) : Int → Option Bool := fun x_332 =>
 (bif (decide (x_332 ≤ m.n)) then
 (Option.bind (m_firthref12_In z320 x_332) fun z341 => (bif z341 then
 (m_firthlaw16_QuorumMeets_j28 x_332 f334 )
 else
 (chk (inb x_332 9) (Option.bind (m_firthref05_Merge (gt x175 x_332.toNat) z291) fun z348 => (Option.bind (m_firthref12_In z310 x_332) fun z359 => (Option.bind (m_firthref05_Same (gt x175 x_332.toNat) z291) fun z364 => (Option.bind (gcall (!(z359 == z364)) (m_firthref05_Same z348.1 z291)) fun z369 => (bif ((z359 == z364) || (!z369)) then
 (some false)
 else
 (m_firthlaw16_QuorumMeets_j28 x_332 f334 )))))))))
 else
 (some true))
def m_firthlaw16_QuorumMeets_b23 (m : Dfirthlaw16_Meet) (x175 : List (List Ver)) (f249 : Oquorum_asking_api_Ver → Option Bool) (i250 : Nat) (ei250 : Int) : Oquorum_asking_api_Ver → Option Bool := fun o246 =>
 (bif ((decide (1 ≤ ei250)) && (decide (ei250 ≤ m.n))) then
 (chk (inb ei250 9) (Option.bind (m_quorum_Read_Got o246 ei250 (gt x175 (ei250.toNat))) fun z275 => (m_firthlaw16_QuorumMeets_j24 f249 z275.1)))
 else
 (m_firthlaw16_QuorumMeets_j24 f249 o246))
def m_firthlaw16_QuorumMeets_b16 (m : Dfirthlaw16_Meet) (v_ : Ver) (f179 : Oquorum_asking_bool × (List (List Ver)) → Option Bool) (i180 : Nat) (ei180 : Int) : Oquorum_asking_bool × (List (List Ver)) → Option Bool := fun (o172, x175) =>
 (bif ((decide (ei180 < 1)) || (decide (m.n < ei180))) then
 (m_firthlaw16_QuorumMeets_j17 f179 o172 x175)
 else
 (chk (inb ei180 9) (Option.bind (m_firthref05_Merge (gt x175 (ei180.toNat)) [v_]) fun z221 => (m_firthlaw16_QuorumMeets_j19 m o172 x175 f179 i180 z221.1 z221.2))))
def m_firthlaw16_QuorumMeets_b6 (f114 : Int → Option Bool) (i115 : Nat) (ei115 : Dfirthlaw16_Reply) : Int → Option Bool := fun n_112 =>
 (f114 (w64 (n_112 + (((ei115.vers).length : Nat) : Int))))
def m_firthlaw16_QuorumMeets_b4 (m : Dfirthlaw16_Meet) (old : List (List Ver)) (v_ : Ver) (f69 : (List Int) × (List Dfirthlaw16_Reply) × Int × (List (List Ver)) → Option Bool) : (List Int) × (List Dfirthlaw16_Reply) × Int × (List (List Ver)) → Option Bool := fun (list_53, all_58, i_63, x65) =>
 (bif (decide (i_63 ≤ m.n)) then
 (chk (decide (list_53.length + 1 ≤ lim)) (chk (imp (decide ((w64 (i_63 - 1)) < ((old.length : Nat) : Int))) (inb (w64 (i_63 - 1)) old.length)) (Option.bind (gcall (decide ((w64 (i_63 - 1)) < ((old.length : Nat) : Int))) (m_firthref05_Right (gt old ((w64 (i_63 - 1)).toNat)))) fun z95 => (bif ((decide ((w64 (i_63 - 1)) < ((old.length : Nat) : Int))) && z95) then
 (chk (inb (w64 (i_63 - 1)) old.length) (chk (inb i_63 9) (m_firthlaw16_QuorumMeets_j5 list_53 all_58 i_63 f69 (List.set x65 i_63.toNat (gt old ((w64 (i_63 - 1)).toNat))))))
 else
 (m_firthlaw16_QuorumMeets_j5 list_53 all_58 i_63 f69 x65)))))
 else
 (forI (m_firthlaw16_QuorumMeets_b6) (fun n_112 =>
 (Option.bind (gcall (!(decide (512 < n_112))) (m_firthlaw16_written all_58)) fun z128 => (bif ((decide (512 < n_112)) || (!z128)) then
 (some true)
 else
 (Option.bind (m_quorum_NewWrite list_53 m.w_) fun z137 => (Option.bind (m_quorum_NewRead list_53 m.r) fun z147 => (bif ((((Option.isNone z137.1) || (Option.isNone z147.1)) || (z137.2 != 0)) || (z147.2 != 0)) then
 (some false)
 else
 (Option.bind z147.1 fun z164 => (Option.bind z137.1 fun z167 => (forI (m_firthlaw16_QuorumMeets_b16 m v_) (fun (o172, x175) =>
 (forI (m_firthlaw16_QuorumMeets_b23 m x175) (fun o246 =>
 (Option.bind (m_quorum_Write_Done o172) fun z283 => (Option.bind (gcall (!(!z283)) (m_quorum_Read_Done o246)) fun z287 => (bif ((!z283) || (!z287)) then
 (some true)
 else
 (Option.bind (m_quorum_Read_Vers o246) fun z291 => (Option.bind (m_firthref05_Behind z291 v_.dot) fun z301 => (Option.bind (gcall (!z301) (m_firthlaw16_has z291 v_)) fun z306 => (bif ((!z301) && (!z306)) then
 (some false)
 else
 (Option.bind (m_quorum_Read_Behind o246) fun z310 => (Option.bind (m_quorum_Read_Waits o246) fun z320 => (loopN (m_firthlaw16_QuorumMeets_b27 m x175 z291 z310 z320) FU 1))))))))))) 0 m.asked z164)) 0 m.took (z167, x65)))))))))) 0 all_58 0))
def m_firthlaw16_QuorumMeets (m : Dfirthlaw16_Meet) (old : List (List Ver)) (v_ : Ver) : Option Bool :=
 (Option.bind (m_firthlaw16_awake) fun z3 => (Option.bind (gcall (!((((((((!z3) || (decide (m.n < 1))) || (decide (8 < m.n))) || (decide (m.w_ < 1))) || (decide (m.n < m.w_))) || (decide (m.r < 1))) || (decide (m.n < m.r))) || (decide ((w64 (m.w_ + m.r)) ≤ m.n)))) (m_firthref05_RightOne v_)) fun z37 => (bif (((((((((!z3) || (decide (m.n < 1))) || (decide (8 < m.n))) || (decide (m.w_ < 1))) || (decide (m.n < m.w_))) || (decide (m.r < 1))) || (decide (m.n < m.r))) || (decide ((w64 (m.w_ + m.r)) ≤ m.n))) || (!z37)) then
 (Option.bind (m_firthlaw16_awake) fun z41 => (some z41))
 else
 (loopN (m_firthlaw16_QuorumMeets_b4 m old v_) FU ([], [(⟨0, [v_], []⟩ : Dfirthlaw16_Reply)], 1, (List.replicate 9 []))))))
end Fw
end Go.Proofs.Ytlbdlkgboliikaa
