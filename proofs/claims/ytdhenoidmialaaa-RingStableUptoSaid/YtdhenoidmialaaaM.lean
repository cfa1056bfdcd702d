/- What the functions compute, as Lean functions (printed by a program). No condition. -/
import Derived.Test.YtdhenoidmialaaaE
import Derived.Test.YtdhenoidmialaaaK14
import Derived.Test.YtdhenoidmialaaaK13
namespace Go.Proofs.Ytdhenoidmialaaa
namespace Fw
set_option linter.unusedVariables false
set_option linter.unusedSimpArgs false
set_option linter.unusedSectionVars false
open Go.RowKit
def m_ring_Right_b1 (members : List Int) (f1 : Unit → Option Bool) (i2 : Nat) (ei2 : Int) : Unit → Option Bool := fun _ =>
 (chk (imp ((!((decide (ei2 < 1)) || (decide (8 < ei2)))) && (decide (0 < ((i2 : Nat) : Int)))) (inb (w64 (((i2 : Nat) : Int) - 1)) members.length)) (bif (((decide (ei2 < 1)) || (decide (8 < ei2))) || ((decide (0 < ((i2 : Nat) : Int))) && (decide (ei2 ≤ (gt members ((w64 (((i2 : Nat) : Int) - 1)).toNat)))))) then
 (some false)
 else
 (f1 ())))
def m_ring_Right (members : List Int) : Option Bool :=
 (forI (m_ring_Right_b1 members) (fun _ =>
 (some (decide (0 < ((members.length : Nat) : Int))))) 0 members ())
def m_num_Hash_b1 (f3 : Int → Option Int) (i4 : Nat) (ei4 : UInt8) : Int → Option Int := fun h_1 =>
 (f3 (wu64 ((ixor .u64 h_1 (wu64 ((ei4.toNat : Nat) : Int))) * 1099511628211)))
def m_num_Hash (b : List UInt8) : Option Int :=
 (forI (m_num_Hash_b1) (fun h_1 =>
 (some (ixor .u64 (wu64 ((ixor .u64 h_1 (ishr .u64 h_1 33)) * 18397679294719823053)) (ishr .u64 (wu64 ((ixor .u64 h_1 (ishr .u64 h_1 33)) * 18397679294719823053)) 33)))) 0 b 14695981039346656037)
def m_cmp_isNaN_uint64 (x_ : Int) : Option Bool :=
 (some (x_ != x_))
def m_cmp_Compare_uint64 (x_ : Int) (y : Int) : Option Int :=
 (Option.bind (m_cmp_isNaN_uint64 x_) fun z1 => (Option.bind (m_cmp_isNaN_uint64 y) fun z3 => (bif z1 then
 (bif z3 then
 (some 0)
 else
 (some (-1)))
 else
 (bif z3 then
 (some 1)
 else
 (bif (decide (x_ < y)) then
 (some (-1))
 else
 (bif (decide (y < x_)) then
 (some 1)
 else
 (some 0)))))))
def m_cmp_isNaN_int (x_ : Int) : Option Bool :=
 (some (x_ != x_))
def m_cmp_Compare_int (x_ : Int) (y : Int) : Option Int :=
 (Option.bind (m_cmp_isNaN_int x_) fun z1 => (Option.bind (m_cmp_isNaN_int y) fun z3 => (bif z1 then
 (bif z3 then
 (some 0)
 else
 (some (-1)))
 else
 (bif z3 then
 (some 1)
 else
 (bif (decide (x_ < y)) then
 (some (-1))
 else
 (bif (decide (y < x_)) then
 (some 1)
 else
 (some 0)))))))
def m_cmp_Or_int_b1 (f1 : Unit → Option Int) (i2 : Nat) (ei2 : Int) : Unit → Option Int := fun _ =>
 (bif (ei2 != 0) then
 (some ei2)
 else
 (f1 ()))
def m_cmp_Or_int (vals : List Int) : Option Int :=
 (forI (m_cmp_Or_int_b1) (fun _ =>
 (some 0)) 0 vals ())
def m_ring_order_1 (a : Dring_point) (b : Dring_point) : Option Int :=
 (Option.bind (m_cmp_Compare_uint64 a.at_ b.at_) fun z4 => (Option.bind (m_cmp_Compare_int a.node b.node) fun z6 => (chk (i64b z4) (chk (i64b z6) (Option.bind (m_cmp_Or_int [z4, z6]) fun z12 => (some z12))))))
def m_ring_order_2 (p : Dring_point) (h_ : Int) : Option Int :=
 (Option.bind (m_cmp_Compare_uint64 p.at_ h_) fun z2 => (some z2))
def m_slices_BinarySearchFunc_ring_point_ring_point_uint64_b1 (x_ : List Dring_point) (target : Int) (f5 : Int × Int → Option (Int × Bool)) : Int × Int → Option (Int × Bool) := fun (i_1, j_3) =>
 (bif (decide (i_1 < j_3)) then
 (chk (inb (w64 (ishr .u64 (wu64 (w64 (i_1 + j_3))) 1)) x_.length) (Option.bind (m_ring_order_2 (gt x_ ((w64 (ishr .u64 (wu64 (w64 (i_1 + j_3))) 1)).toNat)) target) fun z11 => (bif (decide (z11 < 0)) then
 (f5 ((w64 ((w64 (ishr .u64 (wu64 (w64 (i_1 + j_3))) 1)) + 1)), j_3))
 else
 (f5 (i_1, (w64 (ishr .u64 (wu64 (w64 (i_1 + j_3))) 1)))))))
 else
 (chk (imp (decide (i_1 < ((x_.length : Nat) : Int))) (inb i_1 x_.length)) (Option.bind (gcall (decide (i_1 < ((x_.length : Nat) : Int))) (m_ring_order_2 (gt x_ i_1.toNat) target)) fun z22 => (some (i_1, ((decide (i_1 < ((x_.length : Nat) : Int))) && (z22 == 0)))))))
def m_slices_BinarySearchFunc_ring_point_ring_point_uint64 (x_ : List Dring_point) (target : Int) : Option (Int × Bool) :=
 (loopN (m_slices_BinarySearchFunc_ring_point_ring_point_uint64_b1 x_ target) FU (0, ((x_.length : Nat) : Int)))
def m_ring_order_b5 (members : List Int) (i14 : Nat) (f25 : List Dring_point → Option (List Int)) (i26 : Nat) : List Dring_point → Option (List Int) := fun all_20 =>
 (Option.bind (m_num_Hash [(b8 (wu8 (gt members i14))), (b8 (wu8 ((i26 : Nat) : Int)))]) fun z34 => (chk (u64b z34) (chk (decide (all_20.length + 1 ≤ lim)) (f25 (all_20 ++ [(⟨z34, (gt members i14)⟩ : Dring_point)])))))
def m_ring_order_j10 (f70 : (List Int) × (List Bool) → Option (List Int)) (out_77 : List Int) (x82 : List Bool) : Option (List Int) :=
 (f70 (out_77, x82))
def m_ring_order_b9 (z43 : List Dring_point) (z57 : Int × Bool) (f70 : (List Int) × (List Bool) → Option (List Int)) (i71 : Nat) (ei71 : Dring_point) : (List Int) × (List Bool) → Option (List Int) := fun (out_61, x66) =>
 (chk (((z43.length : Nat) : Int) != 0) (chk (inb ((w64 (z57.1 + ((i71 : Nat) : Int))).tmod ((z43.length : Nat) : Int)) z43.length) (chk (inb ((gt z43 (((w64 (z57.1 + ((i71 : Nat) : Int))).tmod ((z43.length : Nat) : Int)).toNat)).node) 9) (bif (!(gt x66 (((gt z43 (((w64 (z57.1 + ((i71 : Nat) : Int))).tmod ((z43.length : Nat) : Int)).toNat)).node).toNat))) then
 (chk (decide (out_61.length + 1 ≤ lim)) (m_ring_order_j10 f70 (out_61 ++ [(gt z43 (((w64 (z57.1 + ((i71 : Nat) : Int))).tmod ((z43.length : Nat) : Int)).toNat)).node]) (List.set x66 (((gt z43 (((w64 (z57.1 + ((i71 : Nat) : Int))).tmod ((z43.length : Nat) : Int)).toNat)).node).toNat) true)))
 else
 (m_ring_order_j10 f70 out_61 x66)))))
def m_ring_order_b4 (members : List Int) (f13 : List Dring_point → Option (List Int)) (i14 : Nat) (ei14 : Int) : List Dring_point → Option (List Int) := fun all_8 =>
 (forU (m_ring_order_b5 members i14) (fun all_20 =>
 (f13 all_20)) 4 0 all_8)
def m_ring_order (members : List Int) (part : Int) : Option (List Int) :=
 (Option.bind (m_ring_Right members) fun z1 => (bif (((!z1) || (decide (part < 0))) || (decide (8 ≤ part))) then
 (some [])
 else
 (forI (m_ring_order_b4 members) (fun all_8 =>
 (Option.bind (m_sort (fun a b => m_ring_order_1 a b) all_8) fun z43 => (Option.bind (m_num_Hash [(b8 255), (b8 (wu8 part))]) fun z54 => (chk (u64b z54) (Option.bind (m_slices_BinarySearchFunc_ring_point_ring_point_uint64 z43 z54) fun z57 => (forI (m_ring_order_b9 z43 z57) (fun (out_61, x66) =>
 (some out_61)) 0 z43 ([], (List.replicate 9 false)))))))) 0 members [])))
def m_slices_Clone_int_int (s_ : List Int) : Option (List Int) :=
 (nilc s_.isEmpty (
 (some []))
 ((chk (decide (0 + s_.length ≤ lim)) (some (([] : List Int) ++ s_)))))
def m_ring_List (members : List Int) (part : Int) (n : Int) : Option (List Int) :=
 (Option.bind (m_ring_order members part) fun z1 => (chk (inle (min (max n 0) ((z1.length : Nat) : Int)) z1.length) (Option.bind (m_slices_Clone_int_int (List.take ((min (max n 0) ((z1.length : Nat) : Int)).toNat) z1)) fun z17 => (some z17))))
def m_slices_Index_int_int_b1 (v_ : Int) (f1 : Unit → Option Int) (i2 : Nat) (ei2 : Int) : Unit → Option Int := fun _ =>
 (bif (v_ == ei2) then
 (some ((i2 : Nat) : Int))
 else
 (f1 ()))
def m_slices_Index_int_int (s_ : List Int) (v_ : Int) : Option Int :=
 (forI (m_slices_Index_int_int_b1 v_) (fun _ =>
 (some (-1))) 0 s_ ())
def m_slices_Contains_int_int (s_ : List Int) (v_ : Int) : Option Bool :=
 (Option.bind (m_slices_Index_int_int s_ v_) fun z1 => (some (decide (0 ≤ z1))))
def m_ring_Owns_j5 (f8 : List Int → Option (List Int)) (out_17 : List Int) : Option (List Int) :=
 (f8 out_17)
def m_ring_Owns_b4 (members : List Int) (node : Int) (n : Int) (f8 : List Int → Option (List Int)) (i9 : Nat) : List Int → Option (List Int) := fun out_3 =>
 (Option.bind (m_ring_List members ((i9 : Nat) : Int) n) fun z22 => (Option.bind (m_slices_Contains_int_int z22 node) fun z32 => (bif z32 then
 (chk (decide (out_3.length + 1 ≤ lim)) (m_ring_Owns_j5 f8 (out_3 ++ [((i9 : Nat) : Int)])))
 else
 (m_ring_Owns_j5 f8 out_3))))
def m_ring_Owns (members : List Int) (node : Int) (n : Int) : Option (List Int) :=
 (forU (m_ring_Owns_b4 members node n) (fun out_3 =>
 (some out_3)) 8 0 [])
def m_firthlaw12_awake  : Option Bool :=
 (Option.bind (m_ring_List [4] 0 1) fun z8 => (chk (imp (((z8.length : Nat) : Int) == 1) (decide (0 < z8.length))) (bif ((((z8.length : Nat) : Int) == 1) && ((gt z8 0) == 4)) then
 (Option.bind (m_ring_Right [1, 3]) fun z26 => (bif z26 then
 (Option.bind (m_ring_List [1, 2, 3] 5 9) fun z36 => (bif (((z36.length : Nat) : Int) == 3) then
 (Option.bind (m_ring_Owns [4] 4 1) fun z54 => (some (((z54.length : Nat) : Int) == 8)))
 else
 (some false)))
 else
 (some false)))
 else
 (some false))))
def m_firthref12_Right_b1 (members : List Int) (f5 : Unit → Option Bool) (i6 : Nat) (ei6 : Int) : Unit → Option Bool := fun _ =>
 (bif ((decide (ei6 < 1)) || (decide (8 < ei6))) then
 (some false)
 else
 (chk (imp (decide (0 < ((i6 : Nat) : Int))) (inb (w64 (((i6 : Nat) : Int) - 1)) members.length)) (bif ((decide (0 < ((i6 : Nat) : Int))) && (decide (ei6 ≤ (gt members ((w64 (((i6 : Nat) : Int) - 1)).toNat))))) then
 (some false)
 else
 (f5 ()))))
def m_firthref12_Right (members : List Int) : Option Bool :=
 (bif ((decide (((members.length : Nat) : Int) < 1)) || (decide (8 < ((members.length : Nat) : Int)))) then
 (some false)
 else
 (forI (m_firthref12_Right_b1 members) (fun _ =>
 (some true)) 0 members ()))
def m_firthref01_Hash_b1 (f3 : Int → Option Int) (i4 : Nat) (ei4 : UInt8) : Int → Option Int := fun h_1 =>
 (f3 (wu64 ((ixor .u64 h_1 (wu64 ((ei4.toNat : Nat) : Int))) * 1099511628211)))
def m_firthref01_Hash (b : List UInt8) : Option Int :=
 (forI (m_firthref01_Hash_b1) (fun h_1 =>
 (some (ixor .u64 (wu64 ((ixor .u64 h_1 (wu64 (h_1.tdiv 8589934592))) * 18397679294719823053)) (wu64 ((wu64 ((ixor .u64 h_1 (wu64 (h_1.tdiv 8589934592))) * 18397679294719823053)).tdiv 8589934592))))) 0 b 14695981039346656037)
def m_firthref12_first_j5 (f3 : Int → Option Int) (best_10 : Int) : Option Int :=
 (f3 best_10)
def m_firthref12_first_b4 (member : Int) (from_ : Int) (f3 : Int → Option Int) (i4 : Nat) : Int → Option Int := fun best_1 =>
 (Option.bind (m_firthref01_Hash [(b8 (wu8 member)), (b8 (wu8 ((i4 : Nat) : Int)))]) fun z14 => (bif (decide ((wu64 (z14 - from_)) < best_1)) then
 (m_firthref12_first_j5 f3 (wu64 (z14 - from_)))
 else
 (m_firthref12_first_j5 f3 best_1)))
def m_firthref12_first (member : Int) (from_ : Int) : Option Int :=
 (forU (m_firthref12_first_b4 member from_) (fun best_1 =>
 (some best_1)) 4 0 18446744073709551615)
def m_firthref12_Order_j19 (f32 : Int → Option (List Int)) (best_39 : Int) : Option (List Int) :=
 (f32 best_39)
def m_firthref12_Order_b18 (z10 : Int) (x21 : List Bool) (f32 : Int → Option (List Int)) (i33 : Nat) (ei33 : Int) : Int → Option (List Int) := fun best_30 =>
 (chk (inb ei33 9) (chk (imp ((!(gt x21 (ei33.toNat))) && (!(best_30 == 0))) (u64b z10)) (Option.bind (gcall ((!(gt x21 (ei33.toNat))) && (!(best_30 == 0))) (m_firthref12_first ei33 z10)) fun z49 => (Option.bind (gcall ((!(gt x21 (ei33.toNat))) && (!(best_30 == 0))) (m_firthref12_first best_30 z10)) fun z54 => (bif ((!(gt x21 (ei33.toNat))) && ((best_30 == 0) || (decide (z49 < z54)))) then
 (m_firthref12_Order_j19 f32 ei33)
 else
 (m_firthref12_Order_j19 f32 best_30))))))
def m_firthref12_Order_b13 (members : List Int) (z10 : Int) (f25 : (List Int) × (List Bool) → Option (List Int)) : (List Int) × (List Bool) → Option (List Int) := fun (out_16, x21) =>
 (bif (decide (((out_16.length : Nat) : Int) < ((members.length : Nat) : Int))) then
 (forI (m_firthref12_Order_b18 z10 x21) (fun best_30 =>
 (chk (inb best_30 9) (chk (decide (out_16.length + 1 ≤ lim)) (f25 ((out_16 ++ [best_30]), (List.set x21 best_30.toNat true)))))) 0 members 0)
 else
 (some out_16))
def m_firthref12_Order (members : List Int) (part : Int) : Option (List Int) :=
 (Option.bind (m_firthref12_Right members) fun z1 => (bif (((!z1) || (decide (part < 0))) || (decide (8 ≤ part))) then
 (some [])
 else
 (Option.bind (m_firthref01_Hash [(b8 255), (b8 (wu8 part))]) fun z10 => (chk (decide (9 ≤ lim)) (loopN (m_firthref12_Order_b13 members z10) FU ([], (List.replicate 9 false)))))))
def m_firthref12_cut (o : List Int) (n : Int) : Option Int :=
 (bif (decide (n < 0)) then
 (some 0)
 else
 (bif (decide (((o.length : Nat) : Int) < n)) then
 (some ((o.length : Nat) : Int))
 else
 (some n)))
def m_firthref12_List (members : List Int) (part : Int) (n : Int) : Option (List Int) :=
 (Option.bind (m_firthref12_Order members part) fun z1 => (Option.bind (m_firthref12_cut z1 n) fun z11 => (chk (inle z11 z1.length) (some (List.take z11.toNat z1)))))
def m_firthref06_Ints_b1 (b : List Int) (f2 : Unit → Option Bool) (i3 : Nat) (ei3 : Int) : Unit → Option Bool := fun _ =>
 (chk (decide (i3 < b.length)) (bif (ei3 != (gt b i3)) then
 (some false)
 else
 (f2 ())))
def m_firthref06_Ints (a : List Int) (b : List Int) : Option Bool :=
 (bif (((a.length : Nat) : Int) != ((b.length : Nat) : Int)) then
 (some false)
 else
 (forI (m_firthref06_Ints_b1 b) (fun _ =>
 (some true)) 0 a ()))
def m_ring_Rest (members : List Int) (part : Int) (n : Int) : Option (List Int) :=
 (Option.bind (m_ring_order members part) fun z1 => (chk (inle (min (max n 0) ((z1.length : Nat) : Int)) z1.length) (Option.bind (m_slices_Clone_int_int (List.drop ((min (max n 0) ((z1.length : Nat) : Int)).toNat) z1)) fun z17 => (some z17))))
def m_firthref12_Rest (members : List Int) (part : Int) (n : Int) : Option (List Int) :=
 (Option.bind (m_firthref12_Order members part) fun z1 => (Option.bind (m_firthref12_cut z1 n) fun z11 => (chk (inle z11 z1.length) (some (List.drop z11.toNat z1)))))
def m_firthlaw12_RingLists (members : List Int) (part : Int) (n : Int) : Option Bool :=
 (Option.bind (m_firthlaw12_awake) fun z1 => (Option.bind (gcall z1 (m_ring_Right members)) fun z5 => (Option.bind (gcall z1 (m_firthref12_Right members)) fun z9 => (bif (z1 && (z5 == z9)) then
 (Option.bind (m_ring_List members part n) fun z16 => (Option.bind (m_firthref12_List members part n) fun z26 => (Option.bind (m_firthref06_Ints z16 z26) fun z36 => (bif z36 then
 (Option.bind (m_ring_Rest members part n) fun z42 => (Option.bind (m_firthref12_Rest members part n) fun z52 => (Option.bind (m_firthref06_Ints z42 z52) fun z62 => (some z62))))
 else
 (some false)))))
 else
 (some false)))))
def m_firthlaw12_RingStable_j27 (f58 : List Int → Option Bool) (some_65 : List Int) : Option Bool :=
 (f58 some_65)
def m_firthlaw12_RingStable_b26 (members : List Int) (at_15 : Int) (f58 : List Int → Option Bool) (i59 : Nat) (ei59 : Int) : List Int → Option Bool := fun some_53 =>
 (chk (inb at_15 members.length) (bif (ei59 != (gt members at_15.toNat)) then
 (chk (decide (some_53.length + 1 ≤ lim)) (m_firthlaw12_RingStable_j27 f58 (some_53 ++ [ei59])))
 else
 (m_firthlaw12_RingStable_j27 f58 some_53)))
def m_firthlaw12_RingStable_b22 (members : List Int) (at_15 : Int) (f36 : Unit → Option Bool) (i37 : Nat) : Unit → Option Bool := fun _ =>
 (Option.bind (m_ring_List members ((i37 : Nat) : Int) 8) fun z43 => (forI (m_firthlaw12_RingStable_b26 members at_15) (fun some_53 =>
 (Option.bind (m_ring_List ((List.take at_15.toNat members) ++ (List.drop ((w64 (at_15 + 1)).toNat) members)) ((i37 : Nat) : Int) 8) fun z78 => (Option.bind (m_firthref06_Ints z78 some_53) fun z88 => (bif (!z88) then
 (some false)
 else
 (f36 ()))))) 0 z43 []))
def m_firthlaw12_RingStable_j1 (members : List Int) (at_15 : Int) : Option Bool :=
 (chk (inle at_15 members.length) (chk (decide (0 + (List.take at_15.toNat members).length ≤ lim)) (chk (inle (w64 (at_15 + 1)) members.length) (chk (decide ((List.take at_15.toNat members).length + (List.drop ((w64 (at_15 + 1)).toNat) members).length ≤ lim)) (forU (m_firthlaw12_RingStable_b22 members at_15) (fun _ =>
 (some true)) 8 0 ())))))
def m_firthlaw12_RingStable (members : List Int) (gone : Int) : Option Bool :=
 (Option.bind (m_firthlaw12_awake) fun z1 => (Option.bind (gcall (!(!z1)) (m_firthref12_Right members)) fun z5 => (bif (((!z1) || (!z5)) || (decide (((members.length : Nat) : Int) < 2))) then
 (Option.bind (m_firthlaw12_awake) fun z12 => (some z12))
 else
 (chk (((members.length : Nat) : Int) != 0) (bif (decide ((gone.tmod ((members.length : Nat) : Int)) < 0)) then
 (m_firthlaw12_RingStable_j1 members (w64 ((gone.tmod ((members.length : Nat) : Int)) + ((members.length : Nat) : Int))))
 else
 (m_firthlaw12_RingStable_j1 members (gone.tmod ((members.length : Nat) : Int))))))))
def m_firthlaw12_RingWhole_b3 (x76 : List Int) (f90 : Unit → Option Bool) (i91 : Nat) (ei91 : Int) : Unit → Option Bool := fun _ =>
 (chk (inb ei91 9) (bif ((gt x76 (ei91.toNat)) != 1) then
 (some false)
 else
 (f90 ())))
def m_firthlaw12_RingWhole_b2 (f80 : List Int → Option Bool) (i81 : Nat) (ei81 : Int) : List Int → Option Bool := fun x76 =>
 (chk (inb ei81 9) (f80 (List.set x76 (ei81.toNat) (w64 ((gt x76 (ei81.toNat)) + 1)))))
def m_firthlaw12_RingWhole_b1 (z39 : List Int) (f64 : List Int → Option Bool) (i65 : Nat) (ei65 : Int) : List Int → Option Bool := fun x60 =>
 (chk (decide (i65 < z39.length)) (bif (ei65 != (gt z39 i65)) then
 (some false)
 else
 (chk (inb ei65 9) (f64 (List.set x60 (ei65.toNat) (w64 ((gt x60 (ei65.toNat)) + 1)))))))
def m_firthlaw12_RingWhole (members : List Int) (part : Int) (n : Int) : Option Bool :=
 (Option.bind (m_firthlaw12_awake) fun z1 => (Option.bind (gcall (!(!z1)) (m_firthref12_Right members)) fun z5 => (bif ((((((!z1) || (!z5)) || (decide (part < 0))) || (decide (7 < part))) || (decide (n < 0))) || (decide (9 < n))) then
 (Option.bind (m_firthlaw12_awake) fun z17 => (some z17))
 else
 (Option.bind (m_ring_List members part n) fun z19 => (Option.bind (m_ring_Rest members part n) fun z29 => (Option.bind (m_ring_List members part (w64 (n + 1))) fun z39 => (bif ((((z19.length : Nat) : Int) != (min n ((members.length : Nat) : Int))) || ((w64 (((z19.length : Nat) : Int) + ((z29.length : Nat) : Int))) != ((members.length : Nat) : Int))) then
 (some false)
 else
 (forI (m_firthlaw12_RingWhole_b1 z39) (fun x60 =>
 (forI (m_firthlaw12_RingWhole_b2) (fun x76 =>
 (forI (m_firthlaw12_RingWhole_b3 x76) (fun _ =>
 (chk (imp ((!(((z29.length : Nat) : Int) == 0)) && (((z39.length : Nat) : Int) == (w64 (((z19.length : Nat) : Int) + 1)))) (decide (z19.length < z39.length))) (chk (imp ((!(((z29.length : Nat) : Int) == 0)) && (((z39.length : Nat) : Int) == (w64 (((z19.length : Nat) : Int) + 1)))) (decide (0 < z29.length))) (some ((((z29.length : Nat) : Int) == 0) || ((((z39.length : Nat) : Int) == (w64 (((z19.length : Nat) : Int) + 1))) && ((gt z39 z19.length) == (gt z29 0)))))))) 0 members ())) 0 z29 x60)) 0 z19 (List.replicate 9 0)))))))))
def m_firthref12_In_b1 (n : Int) (f1 : Unit → Option Bool) (i2 : Nat) (ei2 : Int) : Unit → Option Bool := fun _ =>
 (bif (ei2 == n) then
 (some true)
 else
 (f1 ()))
def m_firthref12_In (l : List Int) (n : Int) : Option Bool :=
 (forI (m_firthref12_In_b1 n) (fun _ =>
 (some false)) 0 l ())
def m_firthref12_Owns_j5 (f8 : List Int → Option (List Int)) (out_17 : List Int) : Option (List Int) :=
 (f8 out_17)
def m_firthref12_Owns_b4 (members : List Int) (node : Int) (n : Int) (f8 : List Int → Option (List Int)) (i9 : Nat) : List Int → Option (List Int) := fun out_3 =>
 (Option.bind (m_firthref12_List members ((i9 : Nat) : Int) n) fun z22 => (Option.bind (m_firthref12_In z22 node) fun z32 => (bif z32 then
 (chk (decide (out_3.length + 1 ≤ lim)) (m_firthref12_Owns_j5 f8 (out_3 ++ [((i9 : Nat) : Int)])))
 else
 (m_firthref12_Owns_j5 f8 out_3))))
def m_firthref12_Owns (members : List Int) (node : Int) (n : Int) : Option (List Int) :=
 (forU (m_firthref12_Owns_b4 members node n) (fun out_3 =>
 (some out_3)) 8 0 [])
def m_slices_Equal_int_int_b1 (s2 : List Int) (f2 : Unit → Option Bool) (i3 : Nat) (ei3 : Int) : Unit → Option Bool := fun _ =>
 (chk (decide (i3 < s2.length)) (bif (ei3 != (gt s2 i3)) then
 (some false)
 else
 (f2 ())))
def m_slices_Equal_int_int (s1 : List Int) (s2 : List Int) : Option Bool :=
 (bif (((s1.length : Nat) : Int) != ((s2.length : Nat) : Int)) then
 (some false)
 else
 (forI (m_slices_Equal_int_int_b1 s2) (fun _ =>
 (some true)) 0 s1 ()))
def m_ring_Moves_j5 (f8 : List Dring_Move → Option (List Dring_Move)) (out_17 : List Dring_Move) : Option (List Dring_Move) :=
 (f8 out_17)
def m_ring_Moves_b4 (old : List Int) (new : List Int) (n : Int) (f8 : List Dring_Move → Option (List Dring_Move)) (i9 : Nat) : List Dring_Move → Option (List Dring_Move) := fun out_3 =>
 (Option.bind (m_ring_List old ((i9 : Nat) : Int) n) fun z22 => (Option.bind (m_ring_List new ((i9 : Nat) : Int) n) fun z32 => (Option.bind (m_ring_Right old) fun z42 => (Option.bind (gcall z42 (m_ring_Right new)) fun z46 => (Option.bind (gcall (z42 && z46) (m_slices_Equal_int_int z22 z32)) fun z51 => (bif ((z42 && z46) && (!z51)) then
 (chk (decide (out_3.length + 1 ≤ lim)) (m_ring_Moves_j5 f8 (out_3 ++ [(⟨((i9 : Nat) : Int), z22, z32⟩ : Dring_Move)])))
 else
 (m_ring_Moves_j5 f8 out_3)))))))
def m_ring_Moves (old : List Int) (new : List Int) (n : Int) : Option (List Dring_Move) :=
 (forU (m_ring_Moves_b4 old new n) (fun out_3 =>
 (some out_3)) 8 0 [])
def m_firthlaw12_RingOwns_j7 (f50 : Int → Option Bool) (at_59 : Int) : Option Bool :=
 (f50 at_59)
def m_firthlaw12_RingOwns_b6 (old : List Int) (fresh : List Int) (n : Int) (z36 : List Dring_Move) (f50 : Int → Option Bool) (i51 : Nat) : Int → Option Bool := fun at_48 =>
 (Option.bind (m_firthref12_List old ((i51 : Nat) : Int) n) fun z61 => (Option.bind (m_firthref12_List fresh ((i51 : Nat) : Int) n) fun z71 => (Option.bind (m_firthref12_Right old) fun z81 => (Option.bind (gcall (!(!z81)) (m_firthref12_Right fresh)) fun z85 => (Option.bind (gcall (!((!z81) || (!z85))) (m_firthref06_Ints z61 z71)) fun z91 => (bif (((!z81) || (!z85)) || z91) then
 (m_firthlaw12_RingOwns_j7 f50 at_48)
 else
 (chk (imp (!(decide (((z36.length : Nat) : Int) ≤ at_48))) (inb at_48 z36.length)) (chk (imp (!((decide (((z36.length : Nat) : Int) ≤ at_48)) || ((gt z36 at_48.toNat).part != ((i51 : Nat) : Int)))) (inb at_48 z36.length)) (Option.bind (gcall (!((decide (((z36.length : Nat) : Int) ≤ at_48)) || ((gt z36 at_48.toNat).part != ((i51 : Nat) : Int)))) (m_firthref06_Ints ((gt z36 at_48.toNat).old) z61)) fun z115 => (chk (imp (!(((decide (((z36.length : Nat) : Int) ≤ at_48)) || ((gt z36 at_48.toNat).part != ((i51 : Nat) : Int))) || (!z115))) (inb at_48 z36.length)) (Option.bind (gcall (!(((decide (((z36.length : Nat) : Int) ≤ at_48)) || ((gt z36 at_48.toNat).part != ((i51 : Nat) : Int))) || (!z115))) (m_firthref06_Ints ((gt z36 at_48.toNat).new) z71)) fun z126 => (bif ((((decide (((z36.length : Nat) : Int) ≤ at_48)) || ((gt z36 at_48.toNat).part != ((i51 : Nat) : Int))) || (!z115)) || (!z126)) then
 (some false)
 else
 (m_firthlaw12_RingOwns_j7 f50 (w64 (at_48 + 1)))))))))))))))
def m_firthlaw12_RingOwns_b1 (old : List Int) (fresh : List Int) (n : Int) (f8 : Int → Option Bool) : Int → Option Bool := fun m_6 =>
 (bif (decide (m_6 < 10)) then
 (Option.bind (m_ring_Owns old m_6 n) fun z13 => (Option.bind (m_firthref12_Owns old m_6 n) fun z23 => (Option.bind (m_firthref06_Ints z13 z23) fun z33 => (bif (!z33) then
 (some false)
 else
 (f8 (w64 (m_6 + 1)))))))
 else
 (Option.bind (m_ring_Moves old fresh n) fun z36 => (forU (m_firthlaw12_RingOwns_b6 old fresh n z36) (fun at_48 =>
 (some (at_48 == ((z36.length : Nat) : Int)))) 8 0 0)))
def m_firthlaw12_RingOwns (old : List Int) (fresh : List Int) (n : Int) : Option Bool :=
 (Option.bind (m_firthlaw12_awake) fun z1 => (bif (!z1) then
 (some false)
 else
 (loopN (m_firthlaw12_RingOwns_b1 old fresh n) FU (-1))))
def m_ring_Part (key : ByteArray) : Option Int :=
 (Option.bind (m_num_Hash (key.data.toList)) fun z7 => (some (w64 (z7.tmod 8))))
def m_firthref12_Part (key : ByteArray) : Option Int :=
 (Option.bind (m_firthref01_Hash (key.data.toList)) fun z7 => (some (w64 (z7.tmod 8))))
def m_firthlaw12_RingParts (key : ByteArray) : Option Bool :=
 (Option.bind (m_ring_Part key) fun z1 => (Option.bind (m_firthlaw12_awake) fun z3 => (Option.bind (gcall z3 (m_firthref12_Part key)) fun z8 => (some (((z3 && (z1 == z8)) && (decide (0 ≤ z1))) && (decide (z1 < 8)))))))
def m_firthlaw12_RingKeeps_b2 (f51 : List Int → Option Bool) (i52 : Nat) : List Int → Option Bool := fun x47 =>
 (f51 (List.set x47 i52 (-2)))
def m_firthlaw12_RingKeeps_b1 (f38 : List Int → Option Bool) (i39 : Nat) : List Int → Option Bool := fun x34 =>
 (f38 (List.set x34 i39 (-1)))
def m_firthlaw12_RingKeeps (members : List Int) (part : Int) (n : Int) : Option Bool :=
 (Option.bind (m_firthlaw12_awake) fun z1 => (bif (!z1) then
 (some false)
 else
 (chk (decide (0 + members.length ≤ lim)) (Option.bind (m_ring_List members part n) fun z14 => (Option.bind (m_ring_Rest members part n) fun z24 => (forU (m_firthlaw12_RingKeeps_b1) (fun x34 =>
 (forU (m_firthlaw12_RingKeeps_b2) (fun x47 =>
 (Option.bind (m_firthref06_Ints members members) fun z60 => (bif z60 then
 (Option.bind (m_ring_List members part n) fun z66 => (Option.bind (m_firthref12_List members part n) fun z76 => (Option.bind (m_firthref06_Ints z66 z76) fun z86 => (some z86))))
 else
 (some false)))) z24.length 0 z24)) z14.length 0 z14))))))
end Fw
end Go.Proofs.Ytdhenoidmialaaa
