/- What the functions compute, as Lean functions (printed by a program). No condition. -/
import Derived.Test.YtbidmceookkapaaGreatE
import Derived.Test.YtbidmceookkapaaGreatK14
import Derived.Test.YtbidmceookkapaaGreatK15
import Derived.Test.YtbidmceookkapaaGreatK17
import Derived.Test.YtbidmceookkapaaGreatK18
import Derived.Test.YtbidmceookkapaaGreatK19
import Derived.Test.YtbidmceookkapaaGreatK20
import Derived.Test.YtbidmceookkapaaGreatK21
import Derived.Test.YtbidmceookkapaaGreatK27
import Derived.Test.YtbidmceookkapaaGreatK28
import Derived.Test.YtbidmceookkapaaGreatK29
import Derived.Test.YtbidmceookkapaaGreatK30
import Derived.Test.YtbidmceookkapaaGreatK31
namespace Go.Proofs.YtbidmceookkapaaGreat
namespace Fw
set_option linter.unusedVariables false
set_option linter.unusedSimpArgs false
set_option linter.unusedSectionVars false
open Go.RowKit
structure OTree where
  leaves : List (Option (List (ByteArray × Rec)))
  sums : List ((Int × Int × Int) × Int)
  deriving Inhabited, DecidableEq
def m_firthlaw14_k  : Option Rec :=
 (some (⟨(⟨#[107]⟩ : ByteArray), [(⟨(⟨1, 1⟩ : Dot), [], false, (⟨#[118]⟩ : ByteArray)⟩ : Ver)]⟩ : Rec))
def m_firthref01_Hash_b1 (f3 : Int → Option Int) (i4 : Nat) (ei4 : UInt8) : Int → Option Int := fun h_1 =>
 (f3 (wu64 ((ixor .u64 h_1 (wu64 ((ei4.toNat : Nat) : Int))) * 1099511628211)))
def m_firthref01_Hash (b : List UInt8) : Option Int :=
 (forI (m_firthref01_Hash_b1) (fun h_1 =>
 (some (ixor .u64 (wu64 ((ixor .u64 h_1 (wu64 (h_1.tdiv 8589934592))) * 18397679294719823053)) (wu64 ((wu64 ((ixor .u64 h_1 (wu64 (h_1.tdiv 8589934592))) * 18397679294719823053)).tdiv 8589934592))))) 0 b 14695981039346656037)
def m_firthref11_Place (key : ByteArray) : Option (List Int) :=
 (Option.bind (m_firthref01_Hash (key.data.toList)) fun z7 => (some [(w64 (wu64 (z7.tdiv 1152921504606846976))), (w64 ((wu64 (z7.tdiv 72057594037927936)).tmod 16))]))
def m_span_Right_b1 (f4 : Span → Option Bool) (i5 : Nat) (ei5 : Span) : Span → Option Bool := fun x2 =>
 (bif (((((((decide (ei5.s < 1)) || (decide (16 < ei5.s))) || (decide (ei5.f < 1))) || (decide (ei5.t < ei5.f))) || (decide (4611686018427387904 < ei5.t))) || (decide (ei5.s < x2.s))) || ((ei5.s == x2.s) && (decide (ei5.f ≤ (w64 (x2.t + 1)))))) then
 (some false)
 else
 (f4 ei5))
def m_span_Right (l : List Span) : Option Bool :=
 (forI (m_span_Right_b1) (fun x2 =>
 (some (decide (((l.length : Nat) : Int) ≤ 1024)))) 0 l (⟨0, 0, 0⟩ : Span))
def m_span_Top_j6 (f3 : Int → Option Int) (top_10 : Int) : Option Int :=
 (f3 top_10)
def m_span_Top_b5 (s_ : Int) (f3 : Int → Option Int) (i4 : Nat) (ei4 : Span) : Int → Option Int := fun top_1 =>
 (bif (ei4.s == s_) then
 (m_span_Top_j6 f3 (max top_1 ei4.t))
 else
 (m_span_Top_j6 f3 top_1))
def m_span_Top (l : List Span) (s_ : Int) : Option Int :=
 (forI (m_span_Top_b5 s_) (fun top_1 =>
 (some top_1)) 0 l 0)
def m_vers_RightOne (v_ : Ver) : Option Bool :=
 (Option.bind (m_span_Right [(⟨v_.dot.s, v_.dot.n, v_.dot.n⟩ : Span)]) fun z6 => (Option.bind (gcall z6 (m_span_Right v_.past)) fun z11 => (Option.bind (gcall (z6 && z11) (m_span_Top v_.past v_.dot.s)) fun z22 => (some ((((z6 && z11) && (decide (z22 < v_.dot.n))) && (decide (((v_.val.size : Nat) : Int) ≤ 256))) && ((!v_.gone) || (v_.val == ByteArray.empty)))))))
def m_vers_before (a : Dot) (b : Dot) : Option Bool :=
 (some ((decide (a.s < b.s)) || ((a.s == b.s) && (decide (a.n < b.n)))))
def m_span_Has_b1 (d : Dot) (f2 : Unit → Option Bool) (i3 : Nat) (ei3 : Span) : Unit → Option Bool := fun _ =>
 (bif (((ei3.s == d.s) && (decide (ei3.f ≤ d.n))) && (decide (d.n ≤ ei3.t))) then
 (some true)
 else
 (f2 ()))
def m_span_Has (l : List Span) (d : Dot) : Option Bool :=
 (forI (m_span_Has_b1 d) (fun _ =>
 (some false)) 0 l ())
def m_vers_behind_b1 (d : Dot) (f2 : Unit → Option Bool) (i3 : Nat) (ei3 : Ver) : Unit → Option Bool := fun _ =>
 (Option.bind (m_span_Has (ei3.past) d) fun z13 => (bif z13 then
 (some true)
 else
 (f2 ())))
def m_vers_behind (d : Dot) (l : List Ver) : Option Bool :=
 (forI (m_vers_behind_b1 d) (fun _ =>
 (some false)) 0 l ())
def m_vers_Right_b1 (l : List Ver) (f1 : Unit → Option Bool) (i2 : Nat) (ei2 : Ver) : Unit → Option Bool := fun _ =>
 (Option.bind (m_vers_RightOne ei2) fun z12 => (chk (imp ((!(!z12)) && (decide (0 < ((i2 : Nat) : Int)))) (inb (w64 (((i2 : Nat) : Int) - 1)) l.length)) (Option.bind (gcall ((!(!z12)) && (decide (0 < ((i2 : Nat) : Int)))) (m_vers_before ((gt l ((w64 (((i2 : Nat) : Int) - 1)).toNat)).dot) (ei2.dot))) fun z30 => (Option.bind (gcall (!((!z12) || ((decide (0 < ((i2 : Nat) : Int))) && (!z30)))) (m_vers_behind (ei2.dot) l)) fun z38 => (bif (((!z12) || ((decide (0 < ((i2 : Nat) : Int))) && (!z30))) || z38) then
 (some false)
 else
 (f1 ()))))))
def m_vers_Right (l : List Ver) : Option Bool :=
 (forI (m_vers_Right_b1 l) (fun _ =>
 (some (decide (((l.length : Nat) : Int) ≤ 512)))) 0 l ())
def m_code_RightRec (r_ : Rec) : Option Bool :=
 (Option.bind (gcall ((decide (1 ≤ ((r_.key.size : Nat) : Int))) && (decide (((r_.key.size : Nat) : Int) ≤ 32))) (m_vers_Right r_.vers)) fun z9 => (some (((decide (1 ≤ ((r_.key.size : Nat) : Int))) && (decide (((r_.key.size : Nat) : Int) ≤ 32))) && z9)))
def m_num_Hash_b1 (f3 : Int → Option Int) (i4 : Nat) (ei4 : UInt8) : Int → Option Int := fun h_1 =>
 (f3 (wu64 ((ixor .u64 h_1 (wu64 ((ei4.toNat : Nat) : Int))) * 1099511628211)))
def m_num_Hash (b : List UInt8) : Option Int :=
 (forI (m_num_Hash_b1) (fun h_1 =>
 (some (ixor .u64 (wu64 ((ixor .u64 h_1 (ishr .u64 h_1 33)) * 18397679294719823053)) (ishr .u64 (wu64 ((ixor .u64 h_1 (ishr .u64 h_1 33)) * 18397679294719823053)) 33)))) 0 b 14695981039346656037)
def m_tree_Place (key : ByteArray) : Option (List Int) :=
 (Option.bind (m_num_Hash (key.data.toList)) fun z7 => (some [(w64 (ishr .u64 z7 60)), (w64 (iand .u64 (ishr .u64 z7 56) 15))]))
def m_slices_Clone_api_Ver_api_Ver (s_ : List Ver) : Option (List Ver) :=
 (nilc s_.isEmpty (
 (some []))
 ((chk (decide (0 + s_.length ≤ lim)) (some (([] : List Ver) ++ s_)))))
def m_slices_Clone_api_Span_api_Span (s_ : List Span) : Option (List Span) :=
 (nilc s_.isEmpty (
 (some []))
 ((chk (decide (0 + s_.length ≤ lim)) (some (([] : List Span) ++ s_)))))
def m_tree_own_b1 (f19 : List Ver → Option Rec) (i20 : Nat) : List Ver → Option Rec := fun x15 =>
 (Option.bind (m_slices_Clone_api_Span_api_Span ((gt x15 i20).past)) fun z30 => (f19 (List.set x15 i20 (⟨(⟨(gt x15 i20).dot.s, (gt x15 i20).dot.n⟩ : Dot), z30, (gt x15 i20).gone, (gt x15 i20).val⟩ : Ver))))
def m_tree_own (r_ : Rec) : Option Rec :=
 (Option.bind (m_slices_Clone_api_Ver_api_Ver r_.vers) fun z3 => (forU (m_tree_own_b1) (fun x15 =>
 (some (⟨r_.key, x15⟩ : Rec))) z3.length 0 z3))
def m_tree_Tree_Set_j2 (z5 : List Int) (o43 : OTree) : Option (OTree × Int) :=
 (some ((⟨o43.leaves, (mdel (2, (gt z5 0), (gt z5 1)) (mdel (1, (gt z5 0), 0) (mdel (0, 0, 0) o43.sums)))⟩ : OTree), 0))
def m_tree_Tree_Set_j1 (r_ : Rec) (z5 : List Int) (o19 : OTree) : Option (OTree × Int) :=
 (Option.bind (gt o19.leaves (0 + ((gt z5 0).toNat) * 16 + ((gt z5 1).toNat) * 1)) fun es32 => (bif (decide (0 < ((r_.vers.length : Nat) : Int))) then
 (Option.bind (gt (⟨(List.set o19.leaves (0 + ((gt z5 0).toNat) * 16 + ((gt z5 1).toNat) * 1) (some (mdel r_.key es32))), o19.sums⟩ : OTree).leaves (0 + ((gt z5 0).toNat) * 16 + ((gt z5 1).toNat) * 1)) fun es49 => (Option.bind (m_tree_own r_) fun z55 => (m_tree_Tree_Set_j2 z5 (⟨(List.set (⟨(List.set o19.leaves (0 + ((gt z5 0).toNat) * 16 + ((gt z5 1).toNat) * 1) (some (mdel r_.key es32))), o19.sums⟩ : OTree).leaves (0 + ((gt z5 0).toNat) * 16 + ((gt z5 1).toNat) * 1) (some (mput r_.key z55 es49))), (⟨(List.set o19.leaves (0 + ((gt z5 0).toNat) * 16 + ((gt z5 1).toNat) * 1) (some (mdel r_.key es32))), o19.sums⟩ : OTree).sums⟩ : OTree))))
 else
 (m_tree_Tree_Set_j2 z5 (⟨(List.set o19.leaves (0 + ((gt z5 0).toNat) * 16 + ((gt z5 1).toNat) * 1) (some (mdel r_.key es32))), o19.sums⟩ : OTree))))
def m_tree_Tree_Set (t_ : OTree) (r_ : Rec) : Option (OTree × Int) :=
 (Option.bind (m_code_RightRec r_) fun z2 => (bif (!z2) then
 (some (t_, 1))
 else
 (Option.bind (m_tree_Place r_.key) fun z5 => (chk (decide (0 < z5.length)) (chk (decide (1 < z5.length)) (chk (inb (gt z5 0) 16) (chk (inb (gt z5 1) 16) (bif (Option.isNone (gt t_.leaves (0 + ((gt z5 0).toNat) * 16 + ((gt z5 1).toNat) * 1))) then
 (m_tree_Tree_Set_j1 r_ z5 (⟨(List.set t_.leaves (0 + ((gt z5 0).toNat) * 16 + ((gt z5 1).toNat) * 1) (some ([] : List (ByteArray × Rec)))), t_.sums⟩ : OTree))
 else
 (m_tree_Tree_Set_j1 r_ z5 t_)))))))))
def m_tree_New_b1 (f11 : OTree → Option ((Option OTree) × Int)) (i12 : Nat) (ei12 : Rec) : OTree → Option ((Option OTree) × Int) := fun o8 =>
 (Option.bind (m_tree_Tree_Set o8 ei12) fun z22 => (bif (z22.2 != 0) then
 (some (none, z22.2))
 else
 (f11 z22.1)))
def m_tree_New (list : List Rec) : Option ((Option OTree) × Int) :=
 (forI (m_tree_New_b1) (fun o8 =>
 (some ((some o8), 0))) 0 list (⟨List.replicate 256 none, []⟩ : OTree))
def m_tree_at_b1 (f8 : List Int → Option ((Int × Int × Int) × Bool)) (i9 : Nat) (ei9 : Int) : List Int → Option ((Int × Int × Int) × Bool) := fun x4 =>
 (bif (((decide (1 < ((i9 : Nat) : Int))) || (decide (ei9 < 0))) || (decide (15 < ei9))) then
 (some (((gt x4 0), (gt x4 1), (gt x4 2)), false))
 else
 (chk (decide (i9 + 1 < 3)) (f8 (List.set x4 (i9 + 1) ei9))))
def m_tree_at (path : List Int) : Option ((Int × Int × Int) × Bool) :=
 (forI (m_tree_at_b1) (fun x4 =>
 (some (((gt x4 0), (gt x4 1), (gt x4 2)), true))) 0 path [((path.length : Nat) : Int), 0, 0])
def m_maps_Copy_map_string_api_Rec_map_string_api_Rec_string_api_Rec_nil_b1 (f2 : Unit → Option Unit) : Unit → Option Unit := fun _ =>
 (some ())
def m_maps_Copy_map_string_api_Rec_map_string_api_Rec_string_api_Rec_nil (dst : List (ByteArray × Rec)) : Option Unit :=
 (loopN (m_maps_Copy_map_string_api_Rec_map_string_api_Rec_string_api_Rec_nil_b1) FU ())
def m_maps_Copy_map_string_api_Rec_map_string_api_Rec_string_api_Rec_b1 : List (ByteArray × Rec) → (ByteArray × Rec) → Option (List (ByteArray × Rec)) := fun m7 en17 =>
 (some (mput en17.1 en17.2 m7))
def m_maps_Copy_map_string_api_Rec_map_string_api_Rec_string_api_Rec (dst : List (ByteArray × Rec)) (src : List (ByteArray × Rec)) : Option (List (ByteArray × Rec)) :=
 (Option.bind (fldO (m_maps_Copy_map_string_api_Rec_map_string_api_Rec_string_api_Rec_b1) dst src) (fun m26 =>
 (some m26)))
def m_tree_Tree_Recs_j21 (f26 : List (ByteArray × Rec) → Option (List Rec)) (m35 : List (ByteArray × Rec)) : Option (List Rec) :=
 (f26 m35)
def m_tree_Tree_Recs_b20 (t_ : OTree) (path : List Int) (i14 : Nat) (f26 : List (ByteArray × Rec) → Option (List Rec)) (i27 : Nat) : List (ByteArray × Rec) → Option (List Rec) := fun m23 =>
 (chk (imp (decide (0 < ((path.length : Nat) : Int))) (decide (0 < path.length))) (chk (imp ((!((decide (0 < ((path.length : Nat) : Int))) && ((gt path 0) != ((i14 : Nat) : Int)))) && (decide (1 < ((path.length : Nat) : Int)))) (decide (1 < path.length))) (bif (((decide (0 < ((path.length : Nat) : Int))) && ((gt path 0) != ((i14 : Nat) : Int))) || ((decide (1 < ((path.length : Nat) : Int))) && ((gt path 1) != ((i27 : Nat) : Int)))) then
 (m_tree_Tree_Recs_j21 f26 m23)
 else
 (optm (gt t_.leaves (0 + i14 * 16 + i27 * 1))
 ((Option.bind (m_maps_Copy_map_string_api_Rec_map_string_api_Rec_string_api_Rec_nil m23) fun z62 => (m_tree_Tree_Recs_j21 f26 m23)))
 fun es58 =>
 (Option.bind (m_maps_Copy_map_string_api_Rec_map_string_api_Rec_string_api_Rec m23 es58) fun z68 => (m_tree_Tree_Recs_j21 f26 z68))))))
def m_tree_Tree_Recs_b22 (m10 : List (ByteArray × Rec)) (f94 : List Rec → Option (List Rec)) (i95 : Nat) (ei95 : ByteArray) : List Rec → Option (List Rec) := fun out_89 =>
 (Option.bind (m_tree_own ((mget ei95 m10).getD (⟨ByteArray.empty, []⟩ : Rec))) fun z108 => (chk (decide (out_89.length + 1 ≤ lim)) (f94 (out_89 ++ [z108]))))
def m_tree_Tree_Recs_b16 (t_ : OTree) (path : List Int) (f13 : List (ByteArray × Rec) → Option (List Rec)) (i14 : Nat) : List (ByteArray × Rec) → Option (List Rec) := fun m10 =>
 (forU (m_tree_Tree_Recs_b20 t_ path i14) (fun m23 =>
 (f13 m23)) 16 0 m10)
def m_tree_Tree_Recs (t_ : OTree) (path : List Int) : Option (List Rec) :=
 (Option.bind (m_tree_at path) fun z1 => (bif (!z1.2) then
 (some [])
 else
 (forU (m_tree_Tree_Recs_b16 t_ path) (fun m10 =>
 (chk (decide (m10.length ≤ lim)) (forI (m_tree_Tree_Recs_b22 m10) (fun out_89 =>
 (some out_89)) 0 (skeys m10) []))) 16 0 ([] : List (ByteArray × Rec)))))
def m_slices_Clone_int_int (s_ : List Int) : Option (List Int) :=
 (nilc s_.isEmpty (
 (some []))
 ((chk (decide (0 + s_.length ≤ lim)) (some (([] : List Int) ++ s_)))))
def m_tree_Tree_Kids_b1 (H : OTree → List Int → Option (OTree × Int)) (path : List Int) (f18 : (List Int) × OTree → Option (OTree × (List Int))) (i19 : Nat) : (List Int) × OTree → Option (OTree × (List Int)) := fun (out_10, o15) =>
 (Option.bind (m_slices_Clone_int_int path) fun z25 => (chk (decide (z25.length + 1 ≤ lim)) (chk (decide ((z25 ++ [((i19 : Nat) : Int)]).length = path.length + 1)) (Option.bind (H o15 (z25 ++ [((i19 : Nat) : Int)])) fun z47 => (chk (decide (out_10.length + 1 ≤ lim)) (f18 ((out_10 ++ [z47.2]), z47.1)))))))
def m_tree_Tree_Kids (H : OTree → List Int → Option (OTree × Int)) (t_ : OTree) (path : List Int) : Option (OTree × (List Int)) :=
 (Option.bind (m_tree_at path) fun z1 => (bif ((!z1.2) || (decide (1 < ((path.length : Nat) : Int)))) then
 (some (t_, []))
 else
 (forU (m_tree_Tree_Kids_b1 H path) (fun (out_10, o15) =>
 (chk (decide (0 < out_10.length)) (some (o15, out_10)))) 16 0 ([], t_))))
def m_num_PutNum_b1 (f7 : (List UInt8) × Int → Option (List UInt8)) : (List UInt8) × Int → Option (List UInt8) := fun (b_1, u_6) =>
 (bif (decide (127 < u_6)) then
 (chk (u8b (ior .u8 (wu8 u_6) 128)) (chk (decide (b_1.length + 1 ≤ lim)) (f7 ((b_1 ++ [(b8 (ior .u8 (wu8 u_6) 128))]), (ishr .u64 u_6 7)))))
 else
 (chk (decide (b_1.length + 1 ≤ lim)) (some (b_1 ++ [(b8 (wu8 u_6))]))))
def m_num_PutNum (n : Int) : Option (List UInt8) :=
 (loopN (m_num_PutNum_b1) FU ([], (wu64 (max n 0))))
def m_num_PutText (s_ : ByteArray) : Option (List UInt8) :=
 (Option.bind (m_num_PutNum ((s_.size : Nat) : Int)) fun z1 => (chk (decide (z1.length + s_.size ≤ lim)) (some (z1 ++ s_.data.toList))))
def m_vers_Mark_b1 (f18 : List UInt8 → Option Int) (i19 : Nat) (ei19 : Ver) : List UInt8 → Option Int := fun b_13 =>
 (Option.bind (m_num_PutNum (ei19.dot.s)) fun z30 => (chk (decide (b_13.length + z30.length ≤ lim)) (Option.bind (m_num_PutNum (ei19.dot.n)) fun z45 => (chk (decide ((b_13 ++ z30).length + z45.length ≤ lim)) (f18 ((b_13 ++ z30) ++ z45))))))
def m_vers_Mark (key : ByteArray) (l : List Ver) : Option Int :=
 (Option.bind (m_num_PutText key) fun z1 => (forI (m_vers_Mark_b1) (fun b_13 =>
 (Option.bind (m_num_Hash b_13) fun z60 => (some z60))) 0 l z1))
def m_tree_halves (b : List UInt8) (h_ : Int) : Option (List UInt8) :=
 (Option.bind (m_num_PutNum (w64 (ishr .u64 h_ 32))) fun z1 => (chk (decide (b.length + z1.length ≤ lim)) (Option.bind (m_num_PutNum (w64 (iand .u64 h_ 4294967295))) fun z16 => (chk (decide ((b ++ z1).length + z16.length ≤ lim)) (some ((b ++ z1) ++ z16))))))
def m_tree_Tree_reckon_b4 (f31 : (List UInt8) × Bool → Option (OTree × Int)) (i32 : Nat) (ei32 : Rec) : (List UInt8) × Bool → Option (OTree × Int) := fun (b_25, some_30) =>
 (Option.bind (m_vers_Mark (ei32.key) (ei32.vers)) fun z42 => (chk (u64b z42) (Option.bind (m_tree_halves b_25 z42) fun z45 => (f31 (z45, true)))))
def m_tree_Tree_reckon_b5 (f85 : List UInt8 → Option (OTree × Int)) (i86 : Nat) (ei86 : Int) : List UInt8 → Option (OTree × Int) := fun b_80 =>
 (Option.bind (m_tree_halves b_80 ei86) fun z92 => (f85 z92))
def m_tree_Tree_reckon_j1 (b_3 : List UInt8) (some_8 : Bool) (o9 : OTree) : Option (OTree × Int) :=
 (bif (!some_8) then
 (some (o9, 0))
 else
 (Option.bind (m_num_Hash b_3) fun z103 => (chk (u64b z103) (some (o9, z103)))))
def m_tree_Tree_reckon (H : OTree → List Int → Option (OTree × Int)) (t_ : OTree) (path : List Int) : Option (OTree × Int) :=
 (bif (((path.length : Nat) : Int) == 2) then
 (Option.bind (m_tree_Tree_Recs t_ path) fun z13 => (forI (m_tree_Tree_reckon_b4) (fun (b_25, some_30) =>
 (m_tree_Tree_reckon_j1 b_25 some_30 t_)) 0 z13 ([], false)))
 else
 (Option.bind (m_tree_Tree_Recs t_ path) fun z55 => (Option.bind (m_tree_Tree_Kids H t_ path) fun z65 => (forI (m_tree_Tree_reckon_b5) (fun b_80 =>
 (m_tree_Tree_reckon_j1 b_80 (decide (0 < ((z55.length : Nat) : Int))) z65.1)) 0 z65.2 []))))
/-- a place's hash: told, or made -/
def m_hashB (H : OTree → List Int → Option (OTree × Int)) (t : OTree) (path : List Int) : Option (OTree × Int) :=
  (m_tree_at path).bind fun k => bif !k.2 then some (t, 0) else
    chk (decide (k.1.1 = (path.length : Int))) (chk (i64b k.1.2.1) (chk (i64b k.1.2.2)
    (match mget k.1 t.sums with
    | some h => some (t, h)
    | none => (m_tree_Tree_reckon H t path).bind fun z => some (⟨z.1.leaves, z.1.sums ++ [(k.1, z.2)]⟩, z.2))))
def m_hashN : Nat → OTree → List Int → Option (OTree × Int)
  | 0 => fun _ _ => none
  | n + 1 => m_hashB (m_hashN n)
def m_tree_Tree_Hash (t : OTree) (path : List Int) : Option (OTree × Int) := m_hashN 3 t path
def m_tree_Differ_j5 (f14 : List Int → Option (List Int)) (out_21 : List Int) : Option (List Int) :=
 (f14 out_21)
def m_tree_Differ_b4 (a : List Int) (b : List Int) (f14 : List Int → Option (List Int)) (i15 : Nat) : List Int → Option (List Int) := fun out_9 =>
 (bif ((gt (List.take (List.replicate 16 0).length a ++ List.drop a.length (List.replicate 16 0)) i15) != (gt (List.take (List.replicate 16 0).length b ++ List.drop b.length (List.replicate 16 0)) i15)) then
 (chk (decide (out_9.length + 1 ≤ lim)) (m_tree_Differ_j5 f14 (out_9 ++ [((i15 : Nat) : Int)])))
 else
 (m_tree_Differ_j5 f14 out_9))
def m_tree_Differ (a : List Int) (b : List Int) : Option (List Int) :=
 (forU (m_tree_Differ_b4 a b) (fun out_9 =>
 (some out_9)) 16 0 [])
def m_mend_Answer_1 (d : Int) (b0v : List Int) (b1v : OTree) : Option (OTree × Dmend_Step) :=
 (Option.bind (m_slices_Clone_int_int b0v) fun z2 => (chk (decide (z2.length + 1 ≤ lim)) (bif ((((z2 ++ [d]).length : Nat) : Int) == 1) then
 (Option.bind (m_tree_Tree_Kids m_tree_Tree_Hash b1v (z2 ++ [d])) fun z24 => (some (z24.1, (⟨(z2 ++ [d]), z24.2, []⟩ : Dmend_Step))))
 else
 (Option.bind (m_tree_Tree_Recs b1v (z2 ++ [d])) fun z47 => (some (b1v, (⟨(z2 ++ [d]), [], z47⟩ : Dmend_Step)))))))
def m_mend_Answer_b1 (path : List Int) (f60 : (List Dmend_Step) × OTree → Option (List Dmend_Step)) (i61 : Nat) (ei61 : Int) : (List Dmend_Step) × OTree → Option (List Dmend_Step) := fun (out_52, o57) =>
 (Option.bind (m_mend_Answer_1 ei61 path o57) fun z67 => (chk (decide (out_52.length + 1 ≤ lim)) (f60 ((out_52 ++ [z67.2]), z67.1))))
def m_mend_Answer (own : List Rec) (path : List Int) (hashes : List Int) : Option (List Dmend_Step) :=
 (Option.bind (m_tree_New own) fun z2 => (bif ((z2.2 != 0) || (decide (1 < ((path.length : Nat) : Int)))) then
 (some [])
 else
 (Option.bind z2.1 fun z17 => (Option.bind (m_tree_Tree_Kids m_tree_Tree_Hash z17 path) fun z20 => (bif z20.2.isEmpty then
 (some [])
 else
 (Option.bind (m_tree_Differ z20.2 hashes) fun z40 => (forI (m_mend_Answer_b1 path) (fun (out_52, o57) =>
 (some out_52)) 0 z40 ([], z20.1))))))))
def m_mend_right_1 (r_ : Rec) : Option Bool :=
 (Option.bind (m_code_RightRec r_) fun z2 => (some (!z2)))
def m_slices_IndexFunc_api_Rec_api_Rec_b1 (f1 : Unit → Option Int) (i2 : Nat) (ei2 : Rec) : Unit → Option Int := fun _ =>
 (Option.bind (m_mend_right_1 ei2) fun z11 => (bif z11 then
 (some ((i2 : Nat) : Int))
 else
 (f1 ())))
def m_slices_IndexFunc_api_Rec_api_Rec (s_ : List Rec) : Option Int :=
 (forI (m_slices_IndexFunc_api_Rec_api_Rec_b1) (fun _ =>
 (some (-1))) 0 s_ ())
def m_slices_ContainsFunc_api_Rec_api_Rec (s_ : List Rec) : Option Bool :=
 (Option.bind (m_slices_IndexFunc_api_Rec_api_Rec s_) fun z1 => (some (decide (0 ≤ z1))))
def m_mend_right (l : List Rec) : Option Bool :=
 (Option.bind (m_slices_ContainsFunc_api_Rec_api_Rec l) fun z1 => (some (!z1)))
def m_mend_held_b1 (f7 : List (ByteArray × (List Ver)) → Option (List (ByteArray × (List Ver)))) (i8 : Nat) (ei8 : Rec) : List (ByteArray × (List Ver)) → Option (List (ByteArray × (List Ver))) := fun m4 =>
 (f7 (mput (ei8.key) (ei8.vers) m4))
def m_mend_held (l : List Rec) : Option (List (ByteArray × (List Ver))) :=
 (forI (m_mend_held_b1) (fun m4 =>
 (some m4)) 0 l ([] : List (ByteArray × (List Ver))))
def m_vers_clone_api_Span (l : List Span) : Option (List Span) :=
 (chk (decide (0 + l.length ≤ lim)) (some l))
def m_vers_Merge_1 (v_ : Ver) (b0v : List Ver) (b1v : List Ver) (b2v : List Ver) : Option (List Ver) :=
 (Option.bind (m_vers_behind v_.dot b0v) fun z2 => (Option.bind (gcall (!z2) (m_vers_behind v_.dot b1v)) fun z8 => (bif ((!z2) && (!z8)) then
 (Option.bind (m_vers_clone_api_Span v_.past) fun z12 => (chk (decide (b2v.length + 1 ≤ lim)) (some (b2v ++ [(⟨(⟨v_.dot.s, v_.dot.n⟩ : Dot), z12, v_.gone, v_.val⟩ : Ver)]))))
 else
 (some b2v))))
def m_vers_same_b1 (b : Ver) (f21 : Unit → Option Bool) (i22 : Nat) (ei22 : Span) : Unit → Option Bool := fun _ =>
 (chk (decide (i22 < b.past.length)) (bif (ei22 != (gt b.past i22)) then
 (some false)
 else
 (f21 ())))
def m_vers_same (a : Ver) (b : Ver) : Option Bool :=
 (bif ((((a.dot != b.dot) || (a.gone != b.gone)) || (a.val != b.val)) || (((a.past.length : Nat) : Int) != ((b.past.length : Nat) : Int))) then
 (some false)
 else
 (forI (m_vers_same_b1 b) (fun _ =>
 (some true)) 0 a.past ()))
def m_vers_Merge_b1 (a : List Ver) (b : List Ver) (f24 : Bool × Int × Int × (List Ver) → Option ((List Ver) × Int)) : Bool × Int × Int × (List Ver) → Option ((List Ver) × Int) := fun (twin_14, i_15, k_17, x19) =>
 (bif ((decide (i_15 < ((a.length : Nat) : Int))) || (decide (k_17 < ((b.length : Nat) : Int)))) then
 (chk (imp ((!(k_17 == ((b.length : Nat) : Int))) && (decide (i_15 < ((a.length : Nat) : Int)))) (inb i_15 a.length)) (chk (imp ((!(k_17 == ((b.length : Nat) : Int))) && (decide (i_15 < ((a.length : Nat) : Int)))) (inb k_17 b.length)) (Option.bind (gcall ((!(k_17 == ((b.length : Nat) : Int))) && (decide (i_15 < ((a.length : Nat) : Int)))) (m_vers_before ((gt a i_15.toNat).dot) ((gt b k_17.toNat).dot))) fun z57 => (bif ((k_17 == ((b.length : Nat) : Int)) || ((decide (i_15 < ((a.length : Nat) : Int))) && z57)) then
 (chk (inb i_15 a.length) (Option.bind (m_vers_Merge_1 (gt a i_15.toNat) a b x19) fun z62 => (f24 (twin_14, (w64 (i_15 + 1)), k_17, z62))))
 else
 (chk (imp (decide (i_15 < ((a.length : Nat) : Int))) (inb i_15 a.length)) (chk (imp (decide (i_15 < ((a.length : Nat) : Int))) (inb k_17 b.length)) (bif ((decide (i_15 < ((a.length : Nat) : Int))) && ((gt a i_15.toNat).dot == (gt b k_17.toNat).dot)) then
 (chk (imp (!twin_14) (inb i_15 a.length)) (chk (imp (!twin_14) (inb k_17 b.length)) (Option.bind (gcall (!twin_14) (m_vers_same (gt a i_15.toNat) (gt b k_17.toNat))) fun z97 => (f24 ((twin_14 || (!z97)), (w64 (i_15 + 1)), k_17, x19)))))
 else
 (chk (inb k_17 b.length) (Option.bind (m_vers_Merge_1 (gt b k_17.toNat) a b x19) fun z101 => (f24 (twin_14, i_15, (w64 (k_17 + 1)), z101)))))))))))
 else
 (bif twin_14 then
 (some ([], 50))
 else
 (bif (decide (512 < ((x19.length : Nat) : Int))) then
 (some ([], 3))
 else
 (some (x19, 0)))))
def m_vers_Merge (a : List Ver) (b : List Ver) : Option ((List Ver) × Int) :=
 (Option.bind (m_vers_Right a) fun z3 => (Option.bind (gcall (!(!z3)) (m_vers_Right b)) fun z7 => (bif ((!z3) || (!z7)) then
 (some ([], 1))
 else
 (loopN (m_vers_Merge_b1 a b) FU (false, 0, 0, [])))))
def m_vers_Same_b1 (a : List Ver) (b : List Ver) (f1 : Unit → Option Bool) (i2 : Nat) : Unit → Option Bool := fun _ =>
 (chk (decide (i2 < a.length)) (chk (decide (i2 < b.length)) (Option.bind (m_vers_same (gt a i2) (gt b i2)) fun z16 => (bif (!z16) then
 (some false)
 else
 (f1 ())))))
def m_vers_Same (a : List Ver) (b : List Ver) : Option Bool :=
 (forU (m_vers_Same_b1 a b) (fun _ =>
 (some (((a.length : Nat) : Int) == ((b.length : Nat) : Int)))) ((min ((a.length : Nat) : Int) ((b.length : Nat) : Int)).toNat) 0 ())
def m_mend_Take_j5 (f32 : List (ByteArray × (List Ver)) → Option ((List Rec) × Int)) (m41 : List (ByteArray × (List Ver))) : Option ((List Rec) × Int) :=
 (f32 m41)
def m_mend_Take_j10 (f89 : List Rec → Option ((List Rec) × Int)) (out_96 : List Rec) : Option ((List Rec) × Int) :=
 (f89 out_96)
def m_mend_Take_b9 (z18 : List (ByteArray × (List Ver))) (m29 : List (ByteArray × (List Ver))) (f89 : List Rec → Option ((List Rec) × Int)) (i90 : Nat) (ei90 : ByteArray) : List Rec → Option ((List Rec) × Int) := fun out_84 =>
 (Option.bind (gcall (decide (0 < ((((mget ei90 m29).getD []).length : Nat) : Int))) (m_vers_Same ((mget ei90 m29).getD []) ((mget ei90 z18).getD []))) fun z129 => (bif ((decide (0 < ((((mget ei90 m29).getD []).length : Nat) : Int))) && (!z129)) then
 (chk (decide (out_84.length + 1 ≤ lim)) (m_mend_Take_j10 f89 (out_84 ++ [(⟨ei90, ((mget ei90 m29).getD [])⟩ : Rec)])))
 else
 (m_mend_Take_j10 f89 out_84)))
def m_mend_Take_b4 (f32 : List (ByteArray × (List Ver)) → Option ((List Rec) × Int)) (i33 : Nat) (ei33 : Rec) : List (ByteArray × (List Ver)) → Option ((List Rec) × Int) := fun m29 =>
 (Option.bind (m_vers_Merge ((mget (ei33.key) m29).getD []) (ei33.vers)) fun z55 => (bif (z55.2 == 0) then
 (m_mend_Take_j5 f32 (mput (ei33.key) z55.1 m29))
 else
 (m_mend_Take_j5 f32 m29)))
def m_mend_Take (own : List Rec) (theirs : List Rec) : Option ((List Rec) × Int) :=
 (Option.bind (m_mend_right own) fun z1 => (Option.bind (gcall (!(!z1)) (m_mend_right theirs)) fun z5 => (bif ((!z1) || (!z5)) then
 (some ([], 1))
 else
 (Option.bind (m_mend_held own) fun z9 => (Option.bind (m_mend_held own) fun z18 => (forI (m_mend_Take_b4) (fun m29 =>
 (chk (decide (m29.length ≤ lim)) (forI (m_mend_Take_b9 z18 m29) (fun out_84 =>
 (some (out_84, 0))) 0 (skeys m29) []))) 0 theirs z9))))))
def m_firthref03_Same_b1 (b : List Span) (f2 : Unit → Option Bool) (i3 : Nat) (ei3 : Span) : Unit → Option Bool := fun _ =>
 (chk (decide (i3 < b.length)) (bif (ei3 != (gt b i3)) then
 (some false)
 else
 (f2 ())))
def m_firthref03_Same (a : List Span) (b : List Span) : Option Bool :=
 (bif (((a.length : Nat) : Int) != ((b.length : Nat) : Int)) then
 (some false)
 else
 (forI (m_firthref03_Same_b1 b) (fun _ =>
 (some true)) 0 a ()))
def m_firthref05_SameOne (a : Ver) (b : Ver) : Option Bool :=
 (Option.bind (gcall (((a.dot == b.dot) && (a.gone == b.gone)) && (a.val == b.val)) (m_firthref03_Same a.past b.past)) fun z18 => (some ((((a.dot == b.dot) && (a.gone == b.gone)) && (a.val == b.val)) && z18)))
def m_firthref05_Same_b1 (b : List Ver) (f2 : Unit → Option Bool) (i3 : Nat) (ei3 : Ver) : Unit → Option Bool := fun _ =>
 (chk (decide (i3 < b.length)) (Option.bind (m_firthref05_SameOne ei3 (gt b i3)) fun z16 => (bif (!z16) then
 (some false)
 else
 (f2 ()))))
def m_firthref05_Same (a : List Ver) (b : List Ver) : Option Bool :=
 (bif (((a.length : Nat) : Int) != ((b.length : Nat) : Int)) then
 (some false)
 else
 (forI (m_firthref05_Same_b1 b) (fun _ =>
 (some true)) 0 a ()))
def m_firthref06_SameRecs_b1 (b : List Rec) (f2 : Unit → Option Bool) (i3 : Nat) (ei3 : Rec) : Unit → Option Bool := fun _ =>
 (chk (decide (i3 < b.length)) (Option.bind (gcall (!(ei3.key != (gt b i3).key)) (m_firthref05_Same (ei3.vers) ((gt b i3).vers))) fun z27 => (bif ((ei3.key != (gt b i3).key) || (!z27)) then
 (some false)
 else
 (f2 ()))))
def m_firthref06_SameRecs (a : List Rec) (b : List Rec) : Option Bool :=
 (bif (((a.length : Nat) : Int) != ((b.length : Nat) : Int)) then
 (some false)
 else
 (forI (m_firthref06_SameRecs_b1 b) (fun _ =>
 (some true)) 0 a ()))
def m_vers_Lacks (a : List Ver) (b : List Ver) : Option Bool :=
 (Option.bind (m_vers_Merge a b) fun z1 => (Option.bind (gcall (z1.2 == 0) (m_vers_Same z1.1 a)) fun z15 => (some ((z1.2 == 0) && (!z15)))))
def m_mend_Give_j5 (f44 : List Rec → Option (List Rec)) (out_51 : List Rec) : Option (List Rec) :=
 (f44 out_51)
def m_mend_Give_b4 (z17 : List (ByteArray × (List Ver))) (f44 : List Rec → Option (List Rec)) (i45 : Nat) (ei45 : Rec) : List Rec → Option (List Rec) := fun out_39 =>
 (Option.bind (m_vers_Lacks ((mget (ei45.key) z17).getD []) (ei45.vers)) fun z67 => (bif z67 then
 (chk (decide (out_39.length + 1 ≤ lim)) (m_mend_Give_j5 f44 (out_39 ++ [ei45])))
 else
 (m_mend_Give_j5 f44 out_39)))
def m_mend_Give (own : List Rec) (path : List Int) (theirs : List Rec) : Option (List Rec) :=
 (Option.bind (m_tree_New own) fun z1 => (Option.bind (gcall (!(z1.2 != 0)) (m_mend_right theirs)) fun z13 => (bif ((z1.2 != 0) || (!z13)) then
 (some [])
 else
 (Option.bind (m_mend_held theirs) fun z17 => (Option.bind z1.1 fun z26 => (Option.bind (m_tree_Tree_Recs z26 path) fun z29 => (forI (m_mend_Give_b4 z17) (fun out_39 =>
 (some out_39)) 0 z29 [])))))))
def m_mend_Open (own : List Rec) : Option (List Int) :=
 (Option.bind (m_tree_New own) fun z1 => (bif (z1.2 != 0) then
 (some [])
 else
 (Option.bind z1.1 fun z12 => (Option.bind (m_tree_Tree_Kids m_tree_Tree_Hash z12 []) fun z15 => (some z15.2)))))
def m_firthlaw14_awake  : Option Bool :=
 (Option.bind (m_firthlaw14_k) fun z1 => (Option.bind (m_firthref11_Place (⟨#[107]⟩ : ByteArray)) fun z11 => (chk (decide (16 ≤ lim)) (Option.bind (m_mend_Answer [z1] [] (List.replicate 16 0)) fun z36 => (chk (decide (1 ≤ z11.length)) (Option.bind (m_mend_Answer [z1] (List.take 1 z11) (List.replicate 16 0)) fun z61 => (Option.bind (m_mend_Take [] [z1]) fun z71 => (chk (imp (((z36.length : Nat) : Int) == 1) (decide (0 < z36.length))) (chk (imp ((((z36.length : Nat) : Int) == 1) && (((((gt z36 0).path).length : Nat) : Int) == 1)) (decide (0 < z36.length))) (chk (imp ((((z36.length : Nat) : Int) == 1) && (((((gt z36 0).path).length : Nat) : Int) == 1)) (decide (0 < ((gt z36 0).path).length))) (chk (imp ((((z36.length : Nat) : Int) == 1) && (((((gt z36 0).path).length : Nat) : Int) == 1)) (decide (0 < z11.length))) (chk (imp ((((((z36.length : Nat) : Int) == 1) && (((((gt z36 0).path).length : Nat) : Int) == 1)) && ((gt ((gt z36 0).path) 0) == (gt z11 0))) && (((z61.length : Nat) : Int) == 1)) (decide (0 < z61.length))) (Option.bind (gcall ((((((z36.length : Nat) : Int) == 1) && (((((gt z36 0).path).length : Nat) : Int) == 1)) && ((gt ((gt z36 0).path) 0) == (gt z11 0))) && (((z61.length : Nat) : Int) == 1)) (m_firthref06_SameRecs ((gt z61 0).recs) [z1])) fun z127 => (Option.bind (gcall ((((((((z36.length : Nat) : Int) == 1) && (((((gt z36 0).path).length : Nat) : Int) == 1)) && ((gt ((gt z36 0).path) 0) == (gt z11 0))) && (((z61.length : Nat) : Int) == 1)) && z127) && (z71.2 == 0)) (m_firthref06_SameRecs z71.1 [z1])) fun z134 => (bif (((((((((z36.length : Nat) : Int) == 1) && (((((gt z36 0).path).length : Nat) : Int) == 1)) && ((gt ((gt z36 0).path) 0) == (gt z11 0))) && (((z61.length : Nat) : Int) == 1)) && z127) && (z71.2 == 0)) && z134) then
 (Option.bind (m_mend_Give [z1] z11 []) fun z139 => (bif (((z139.length : Nat) : Int) == 1) then
 (Option.bind (m_mend_Give [z1] z11 [z1]) fun z156 => (bif (((z156.length : Nat) : Int) == 0) then
 (Option.bind (m_mend_Open [z1]) fun z171 => (some (((z171.length : Nat) : Int) == 16)))
 else
 (some false)))
 else
 (some false)))
 else
 (some false))))))))))))))))
def m_firthref03_Dot (d : Dot) : Option Bool :=
 (some ((((decide (1 ≤ d.s)) && (decide (d.s ≤ 16))) && (decide (1 ≤ d.n))) && (decide (d.n ≤ 4611686018427387904))))
def m_firthref03_Right_b1 (l : List Span) (f2 : Unit → Option Bool) (i3 : Nat) (ei3 : Span) : Unit → Option Bool := fun _ =>
 (Option.bind (m_firthref03_Dot (⟨ei3.s, ei3.f⟩ : Dot)) fun z9 => (Option.bind (gcall (!(!z9)) (m_firthref03_Dot (⟨ei3.s, ei3.t⟩ : Dot))) fun z23 => (bif (((!z9) || (!z23)) || (decide (ei3.t < ei3.f))) then
 (some false)
 else
 (chk (imp (decide (0 < ((i3 : Nat) : Int))) (inb (w64 (((i3 : Nat) : Int) - 1)) l.length)) (bif ((decide (0 < ((i3 : Nat) : Int))) && ((decide (ei3.s < (gt l ((w64 (((i3 : Nat) : Int) - 1)).toNat)).s)) || ((ei3.s == (gt l ((w64 (((i3 : Nat) : Int) - 1)).toNat)).s) && (decide ((w64 (ei3.f - 1)) ≤ (gt l ((w64 (((i3 : Nat) : Int) - 1)).toNat)).t))))) then
 (some false)
 else
 (f2 ()))))))
def m_firthref03_Right (l : List Span) : Option Bool :=
 (bif (decide (1024 < ((l.length : Nat) : Int))) then
 (some false)
 else
 (forI (m_firthref03_Right_b1 l) (fun _ =>
 (some true)) 0 l ()))
def m_firthref03_Top_j6 (f3 : Int → Option Int) (n_10 : Int) : Option Int :=
 (f3 n_10)
def m_firthref03_Top_b5 (s_ : Int) (f3 : Int → Option Int) (i4 : Nat) (ei4 : Span) : Int → Option Int := fun n_1 =>
 (bif ((ei4.s == s_) && (decide (n_1 < ei4.t))) then
 (m_firthref03_Top_j6 f3 (ei4.t))
 else
 (m_firthref03_Top_j6 f3 n_1))
def m_firthref03_Top (l : List Span) (s_ : Int) : Option Int :=
 (forI (m_firthref03_Top_b5 s_) (fun n_1 =>
 (some n_1)) 0 l 0)
def m_firthref05_RightOne (v_ : Ver) : Option Bool :=
 (Option.bind (m_firthref03_Dot v_.dot) fun z2 => (Option.bind (gcall (!(!z2)) (m_firthref03_Right v_.past)) fun z7 => (Option.bind (gcall (!((!z2) || (!z7))) (m_firthref03_Top v_.past v_.dot.s)) fun z16 => (bif (((!z2) || (!z7)) || (decide (v_.dot.n ≤ z16))) then
 (some false)
 else
 (bif v_.gone then
 (some (v_.val == ByteArray.empty))
 else
 (some (decide (((v_.val.size : Nat) : Int) ≤ 256))))))))
def m_firthref03_Has_b1 (d : Dot) (f2 : Unit → Option Bool) (i3 : Nat) (ei3 : Span) : Unit → Option Bool := fun _ =>
 (bif (((ei3.s == d.s) && (decide (ei3.f ≤ d.n))) && (decide (d.n ≤ ei3.t))) then
 (some true)
 else
 (f2 ()))
def m_firthref03_Has (l : List Span) (d : Dot) : Option Bool :=
 (forI (m_firthref03_Has_b1 d) (fun _ =>
 (some false)) 0 l ())
def m_firthref05_Behind_b1 (d : Dot) (f2 : Unit → Option Bool) (i3 : Nat) (ei3 : Ver) : Unit → Option Bool := fun _ =>
 (Option.bind (m_firthref03_Has (ei3.past) d) fun z12 => (bif z12 then
 (some true)
 else
 (f2 ())))
def m_firthref05_Behind (l : List Ver) (d : Dot) : Option Bool :=
 (forI (m_firthref05_Behind_b1 d) (fun _ =>
 (some false)) 0 l ())
def m_firthref05_Less (a : Dot) (b : Dot) : Option Bool :=
 (bif (a.s != b.s) then
 (some (decide (a.s < b.s)))
 else
 (some (decide (a.n < b.n))))
def m_firthref05_Right_b1 (l : List Ver) (f2 : Unit → Option Bool) (i3 : Nat) (ei3 : Ver) : Unit → Option Bool := fun _ =>
 (Option.bind (m_firthref05_RightOne ei3) fun z12 => (Option.bind (gcall (!(!z12)) (m_firthref05_Behind l (ei3.dot))) fun z21 => (bif ((!z12) || z21) then
 (some false)
 else
 (chk (imp (decide (0 < ((i3 : Nat) : Int))) (inb (w64 (((i3 : Nat) : Int) - 1)) l.length)) (Option.bind (gcall (decide (0 < ((i3 : Nat) : Int))) (m_firthref05_Less ((gt l ((w64 (((i3 : Nat) : Int) - 1)).toNat)).dot) (ei3.dot))) fun z40 => (bif ((decide (0 < ((i3 : Nat) : Int))) && (!z40)) then
 (some false)
 else
 (f2 ())))))))
def m_firthref05_Right (l : List Ver) : Option Bool :=
 (bif (decide (512 < ((l.length : Nat) : Int))) then
 (some false)
 else
 (forI (m_firthref05_Right_b1 l) (fun _ =>
 (some true)) 0 l ()))
def m_firthref06_RightRec (r_ : Rec) : Option Bool :=
 (Option.bind (gcall ((r_.key != ByteArray.empty) && (decide (((r_.key.size : Nat) : Int) ≤ 32))) (m_firthref05_Right r_.vers)) fun z9 => (some (((r_.key != ByteArray.empty) && (decide (((r_.key.size : Nat) : Int) ≤ 32))) && z9)))
def m_firthref10_With_j11 (f8 : (List Rec) × Bool → Option (List Rec)) (out_15 : List Rec) (laid_20 : Bool) : Option (List Rec) :=
 (f8 (out_15, laid_20))
def m_firthref10_With_j13 (l : List Rec) (f8 : (List Rec) × Bool → Option (List Rec)) (i9 : Nat) (out_25 : List Rec) (laid_30 : Bool) : Option (List Rec) :=
 (chk (decide (out_25.length + 1 ≤ lim)) (m_firthref10_With_j11 f8 (out_25 ++ [(gt l i9)]) laid_30))
def m_firthref10_With_b10 (l : List Rec) (r_ : Rec) (f8 : (List Rec) × Bool → Option (List Rec)) (i9 : Nat) (ei9 : Rec) : (List Rec) × Bool → Option (List Rec) := fun (out_2, laid_7) =>
 (bif (ei9.key == r_.key) then
 (m_firthref10_With_j11 f8 out_2 laid_7)
 else
 (bif ((!laid_7) && (strLt r_.key (ei9.key))) then
 (chk (decide (out_2.length + 1 ≤ lim)) (m_firthref10_With_j13 l f8 i9 (out_2 ++ [r_]) true))
 else
 (m_firthref10_With_j13 l f8 i9 out_2 laid_7)))
def m_firthref10_With (l : List Rec) (r_ : Rec) : Option (List Rec) :=
 (forI (m_firthref10_With_b10 l r_) (fun (out_2, laid_7) =>
 (bif (!laid_7) then
 (chk (decide (out_2.length + 1 ≤ lim)) (some (out_2 ++ [r_])))
 else
 (some out_2))) 0 l ([], (((r_.vers.length : Nat) : Int) == 0)))
def m_firthref14_Held_b1 (f8 : List Rec → Option ((List Rec) × Bool)) (i9 : Nat) (ei9 : Rec) : List Rec → Option ((List Rec) × Bool) := fun out_3 =>
 (Option.bind (m_firthref06_RightRec ei9) fun z18 => (bif (!z18) then
 (some ([], false))
 else
 (Option.bind (m_firthref10_With out_3 ei9) fun z26 => (f8 z26))))
def m_firthref14_Held (l : List Rec) : Option ((List Rec) × Bool) :=
 (forI (m_firthref14_Held_b1) (fun out_3 =>
 (some (out_3, true))) 0 l [])
def m_firthref14_Get_b1 (key : ByteArray) (f1 : Unit → Option (List Ver)) (i2 : Nat) (ei2 : Rec) : Unit → Option (List Ver) := fun _ =>
 (bif (ei2.key == key) then
 (some (ei2.vers))
 else
 (f1 ()))
def m_firthref14_Get (l : List Rec) (key : ByteArray) : Option (List Ver) :=
 (forI (m_firthref14_Get_b1 key) (fun _ =>
 (some [])) 0 l ())
def m_firthref05_put_b1 (l : List Ver) (v_ : Ver) (f4 : Int → Option (List Ver)) : Int → Option (List Ver) := fun at_2 =>
 (chk (imp (decide (at_2 < ((l.length : Nat) : Int))) (inb at_2 l.length)) (Option.bind (gcall (decide (at_2 < ((l.length : Nat) : Int))) (m_firthref05_Less ((gt l at_2.toNat).dot) v_.dot)) fun z20 => (bif ((decide (at_2 < ((l.length : Nat) : Int))) && z20) then
 (f4 (w64 (at_2 + 1)))
 else
 (bif ((decide (at_2 < ((l.length : Nat) : Int))) && ((gt l at_2.toNat).dot == v_.dot)) then
 (some l)
 else
 (chk (inle at_2 l.length) (chk (decide (0 + (List.take at_2.toNat l).length ≤ lim)) (chk (decide ((List.take at_2.toNat l).length + 1 ≤ lim)) (chk (decide (((List.take at_2.toNat l) ++ [v_]).length + (List.drop at_2.toNat l).length ≤ lim)) (some (((List.take at_2.toNat l) ++ [v_]) ++ (List.drop at_2.toNat l)))))))))))
def m_firthref05_put (l : List Ver) (v_ : Ver) : Option (List Ver) :=
 (loopN (m_firthref05_put_b1 l v_) FU 0)
def m_firthref05_Merge_b5 (a : List Ver) (i10 : Nat) (f16 : Unit → Option ((List Ver) × Int)) (i17 : Nat) (ei17 : Ver) : Unit → Option ((List Ver) × Int) := fun _ =>
 (Option.bind (gcall ((gt a i10).dot == ei17.dot) (m_firthref05_SameOne (gt a i10) ei17)) fun z38 => (bif (((gt a i10).dot == ei17.dot) && (!z38)) then
 (some ([], 50))
 else
 (f16 ())))
def m_firthref05_Merge_j10 (f49 : List Ver → Option ((List Ver) × Int)) (out_58 : List Ver) : Option ((List Ver) × Int) :=
 (f49 out_58)
def m_firthref05_Merge_j15 (f86 : List Ver → Option ((List Ver) × Int)) (out_95 : List Ver) : Option ((List Ver) × Int) :=
 (f86 out_95)
def m_firthref05_Merge_b14 (a : List Ver) (f86 : List Ver → Option ((List Ver) × Int)) (i87 : Nat) (ei87 : Ver) : List Ver → Option ((List Ver) × Int) := fun out_81 =>
 (Option.bind (m_firthref05_Behind a (ei87.dot)) fun z103 => (bif (!z103) then
 (Option.bind (m_firthref05_put out_81 ei87) fun z106 => (m_firthref05_Merge_j15 f86 z106))
 else
 (m_firthref05_Merge_j15 f86 out_81)))
def m_firthref05_Merge_b9 (b : List Ver) (f49 : List Ver → Option ((List Ver) × Int)) (i50 : Nat) (ei50 : Ver) : List Ver → Option ((List Ver) × Int) := fun out_44 =>
 (Option.bind (m_firthref05_Behind b (ei50.dot)) fun z66 => (bif (!z66) then
 (Option.bind (m_firthref05_put out_44 ei50) fun z69 => (m_firthref05_Merge_j10 f49 z69))
 else
 (m_firthref05_Merge_j10 f49 out_44)))
def m_firthref05_Merge_b4 (a : List Ver) (b : List Ver) (f9 : Unit → Option ((List Ver) × Int)) (i10 : Nat) (ei10 : Ver) : Unit → Option ((List Ver) × Int) := fun _ =>
 (forI (m_firthref05_Merge_b5 a i10) (fun _ =>
 (f9 ())) 0 b ())
def m_firthref05_Merge (a : List Ver) (b : List Ver) : Option ((List Ver) × Int) :=
 (Option.bind (m_firthref05_Right a) fun z1 => (Option.bind (gcall (!(!z1)) (m_firthref05_Right b)) fun z5 => (bif ((!z1) || (!z5)) then
 (some ([], 1))
 else
 (forI (m_firthref05_Merge_b4 a b) (fun _ =>
 (forI (m_firthref05_Merge_b9 b) (fun out_44 =>
 (forI (m_firthref05_Merge_b14 a) (fun out_81 =>
 (bif (decide (512 < ((out_81.length : Nat) : Int))) then
 (some ([], 3))
 else
 (some (out_81, 0)))) 0 b out_44)) 0 a [])) 0 a ()))))
def m_firthlaw14_laid_b1 (f8 : List Rec → Option (List Rec)) (i9 : Nat) (ei9 : Rec) : List Rec → Option (List Rec) := fun l_3 =>
 (Option.bind (m_firthref10_With l_3 ei9) fun z18 => (f8 z18))
def m_firthlaw14_laid (l : List Rec) (more : List Rec) : Option (List Rec) :=
 (forI (m_firthlaw14_laid_b1) (fun l_3 =>
 (some l_3)) 0 more l)
def m_firthref10_Own_b1 (f11 : List Ver → Option Rec) (i12 : Nat) (ei12 : Ver) : List Ver → Option Rec := fun x6 =>
 (chk (decide (0 + (ei12.past).length ≤ lim)) (chk (decide (x6.length + 1 ≤ lim)) (f11 (x6 ++ [ei12]))))
def m_firthref10_Own (r_ : Rec) : Option Rec :=
 (forI (m_firthref10_Own_b1) (fun x6 =>
 (some (⟨r_.key, x6⟩ : Rec))) 0 r_.vers [])





def m_firthref14_Take_j5 (was_25 : List Rec) (f35 : (List Rec) × (List Rec) → Option ((List Rec) × Int)) (now_49 : List Rec) : Option ((List Rec) × Int) :=
 (f35 (was_25, now_49))
def m_firthref14_Take_j10 (f102 : List Rec → Option ((List Rec) × Int)) (out_111 : List Rec) : Option ((List Rec) × Int) :=
 (f102 out_111)
def m_firthref14_Take_b9 (was_25 : List Rec) (f102 : List Rec → Option ((List Rec) × Int)) (i103 : Nat) (ei103 : Rec) : List Rec → Option ((List Rec) × Int) := fun out_97 =>
 (Option.bind (m_firthref14_Get was_25 (ei103.key)) fun z120 => (Option.bind (m_firthref05_Same (ei103.vers) z120) fun z130 => (bif (!z130) then
 (chk (decide (out_97.length + 1 ≤ lim)) (m_firthref14_Take_j10 f102 (out_97 ++ [ei103])))
 else
 (m_firthref14_Take_j10 f102 out_97))))
def m_firthref14_Take_b4 (f35 : (List Rec) × (List Rec) → Option ((List Rec) × Int)) (i36 : Nat) (ei36 : Rec) : (List Rec) × (List Rec) → Option ((List Rec) × Int) := fun (was_25, now_30) =>
 (Option.bind (m_firthref14_Get now_30 (ei36.key)) fun z58 => (Option.bind (m_firthref05_Merge z58 (ei36.vers)) fun z68 => (bif (z68.2 == 0) then
 (Option.bind (m_firthref10_With now_30 (⟨ei36.key, z68.1⟩ : Rec)) fun z80 => (m_firthref14_Take_j5 was_25 f35 z80))
 else
 (m_firthref14_Take_j5 was_25 f35 now_30))))
def m_firthref14_Take (own : List Rec) (theirs : List Rec) : Option ((List Rec) × Int) :=
 (Option.bind (m_firthref14_Held own) fun z1 => (bif (!z1.2) then
 (some ([], 1))
 else
 (Option.bind (m_firthref14_Held theirs) fun z12 => (bif (!z12.2) then
 (some ([], 1))
 else
 (forI (m_firthref14_Take_b4) (fun (was_25, now_30) =>
 (forI (m_firthref14_Take_b9 was_25) (fun out_97 =>
 (some (out_97, 0))) 0 now_30 [])) 0 theirs (z1.1, z1.1))))))
def m_firthlaw14_MendKeeps_b1 (f11 : List Rec → Option Bool) (i12 : Nat) (ei12 : Rec) : List Rec → Option Bool := fun mine_6 =>
 (Option.bind (m_firthref10_Own ei12) fun z21 => (chk (decide (mine_6.length + 1 ≤ lim)) (f11 (mine_6 ++ [z21]))))
def m_firthlaw14_MendKeeps (own : List Rec) (theirs : List Rec) : Option Bool :=
 (Option.bind (m_firthlaw14_awake) fun z1 => (bif (!z1) then
 (some false)
 else
 (forI (m_firthlaw14_MendKeeps_b1) (fun mine_6 =>
 (Option.bind (m_mend_Take mine_6 theirs) fun z36 => (Option.bind (m_mend_Take mine_6 theirs) fun z113 => (Option.bind (m_firthref14_Take own theirs) fun z127 => (Option.bind (gcall ((z36.2 == z113.2) && (z36.2 == z127.2)) (m_firthref06_SameRecs z113.1 z127.1)) fun z144 => (Option.bind (gcall (((z36.2 == z113.2) && (z36.2 == z127.2)) && z144) (m_firthref06_SameRecs mine_6 own)) fun z149 => (some ((((z36.2 == z113.2) && (z36.2 == z127.2)) && z144) && z149)))))))) 0 own [])))
end Fw
end Go.Proofs.YtbidmceookkapaaGreat
