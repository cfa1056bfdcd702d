/- What the functions compute, as Lean functions (printed by a program). No condition. -/
import Derived.Test.YtmmnpinpcgidnaaGreatE
import Derived.Test.YtmmnpinpcgidnaaGreatK14
import Derived.Test.YtmmnpinpcgidnaaGreatK15
import Derived.Test.YtmmnpinpcgidnaaGreatK17
import Derived.Test.YtmmnpinpcgidnaaGreatK18
import Derived.Test.YtmmnpinpcgidnaaGreatK19
import Derived.Test.YtmmnpinpcgidnaaGreatK20
import Derived.Test.YtmmnpinpcgidnaaGreatK21
import Derived.Test.YtmmnpinpcgidnaaGreatK27
import Derived.Test.YtmmnpinpcgidnaaGreatK28
import Derived.Test.YtmmnpinpcgidnaaGreatK29
import Derived.Test.YtmmnpinpcgidnaaGreatK30
namespace Go.Proofs.YtmmnpinpcgidnaaGreat
namespace Fw
set_option linter.unusedVariables false
set_option linter.unusedSimpArgs false
set_option linter.unusedSectionVars false
open Go.RowKit
structure OTree where
  leaves : List (Option (List (ByteArray × Rec)))
  sums : List ((Int × Int × Int) × Int)
  deriving Inhabited, DecidableEq
def m_span_Right_b1 (f4 : Span → Option Bool) (i5 : Nat) (ei5 : Span) : Span → Option Bool := fun x2 =>
 (bif (((((((decide (ei5.s < 1)) || (decide (16 < ei5.s))) || (decide (ei5.f < 1))) || (decide (ei5.t < ei5.f))) || (decide (4611686018427387904 < ei5.t))) || (decide (ei5.s < x2.s))) || ((ei5.s == x2.s) && (decide (ei5.f ≤ (w64 (x2.t + 1)))))) then
 (some false)
 else
 (f4 ei5))
def m_span_Right (l : List Span) : Option Bool :=
 (forI (m_span_Right_b1) (fun x2 =>
 (some (decide (((l.length : Nat) : Int) ≤ 1024)))) 0 l (⟨0, 0, 0⟩ : Span))
def m_span_Top_j6 (f3 : Int → Option Int) (top_10 : Int) : Option Int :=
 (f3 top_10)
def m_span_Top_b5 (s_ : Int) (f3 : Int → Option Int) (i4 : Nat) (ei4 : Span) : Int → Option Int := fun top_1 =>
 (bif (ei4.s == s_) then
 (m_span_Top_j6 f3 (max top_1 ei4.t))
 else
 (m_span_Top_j6 f3 top_1))
def m_span_Top (l : List Span) (s_ : Int) : Option Int :=
 (forI (m_span_Top_b5 s_) (fun top_1 =>
 (some top_1)) 0 l 0)
def m_vers_RightOne (v_ : Ver) : Option Bool :=
 (Option.bind (m_span_Right [(⟨v_.dot.s, v_.dot.n, v_.dot.n⟩ : Span)]) fun z6 => (Option.bind (gcall z6 (m_span_Right v_.past)) fun z11 => (Option.bind (gcall (z6 && z11) (m_span_Top v_.past v_.dot.s)) fun z22 => (some ((((z6 && z11) && (decide (z22 < v_.dot.n))) && (decide (((v_.val.size : Nat) : Int) ≤ 256))) && ((!v_.gone) || (v_.val == ByteArray.empty)))))))
def m_vers_before (a : Dot) (b : Dot) : Option Bool :=
 (some ((decide (a.s < b.s)) || ((a.s == b.s) && (decide (a.n < b.n)))))
def m_span_Has_b1 (d : Dot) (f2 : Unit → Option Bool) (i3 : Nat) (ei3 : Span) : Unit → Option Bool := fun _ =>
 (bif (((ei3.s == d.s) && (decide (ei3.f ≤ d.n))) && (decide (d.n ≤ ei3.t))) then
 (some true)
 else
 (f2 ()))
def m_span_Has (l : List Span) (d : Dot) : Option Bool :=
 (forI (m_span_Has_b1 d) (fun _ =>
 (some false)) 0 l ())
def m_vers_behind_b1 (d : Dot) (f2 : Unit → Option Bool) (i3 : Nat) (ei3 : Ver) : Unit → Option Bool := fun _ =>
 (Option.bind (m_span_Has (ei3.past) d) fun z13 => (bif z13 then
 (some true)
 else
 (f2 ())))
def m_vers_behind (d : Dot) (l : List Ver) : Option Bool :=
 (forI (m_vers_behind_b1 d) (fun _ =>
 (some false)) 0 l ())
def m_vers_Right_b1 (l : List Ver) (f1 : Unit → Option Bool) (i2 : Nat) (ei2 : Ver) : Unit → Option Bool := fun _ =>
 (Option.bind (m_vers_RightOne ei2) fun z12 => (chk (imp ((!(!z12)) && (decide (0 < ((i2 : Nat) : Int)))) (inb (w64 (((i2 : Nat) : Int) - 1)) l.length)) (Option.bind (gcall ((!(!z12)) && (decide (0 < ((i2 : Nat) : Int)))) (m_vers_before ((gt l ((w64 (((i2 : Nat) : Int) - 1)).toNat)).dot) (ei2.dot))) fun z30 => (Option.bind (gcall (!((!z12) || ((decide (0 < ((i2 : Nat) : Int))) && (!z30)))) (m_vers_behind (ei2.dot) l)) fun z38 => (bif (((!z12) || ((decide (0 < ((i2 : Nat) : Int))) && (!z30))) || z38) then
 (some false)
 else
 (f1 ()))))))
def m_vers_Right (l : List Ver) : Option Bool :=
 (forI (m_vers_Right_b1 l) (fun _ =>
 (some (decide (((l.length : Nat) : Int) ≤ 512)))) 0 l ())
def m_code_RightRec (r_ : Rec) : Option Bool :=
 (Option.bind (gcall ((decide (1 ≤ ((r_.key.size : Nat) : Int))) && (decide (((r_.key.size : Nat) : Int) ≤ 32))) (m_vers_Right r_.vers)) fun z9 => (some (((decide (1 ≤ ((r_.key.size : Nat) : Int))) && (decide (((r_.key.size : Nat) : Int) ≤ 32))) && z9)))
def m_num_Hash_b1 (f3 : Int → Option Int) (i4 : Nat) (ei4 : UInt8) : Int → Option Int := fun h_1 =>
 (f3 (wu64 ((ixor .u64 h_1 (wu64 ((ei4.toNat : Nat) : Int))) * 1099511628211)))
def m_num_Hash (b : List UInt8) : Option Int :=
 (forI (m_num_Hash_b1) (fun h_1 =>
 (some (ixor .u64 (wu64 ((ixor .u64 h_1 (ishr .u64 h_1 33)) * 18397679294719823053)) (ishr .u64 (wu64 ((ixor .u64 h_1 (ishr .u64 h_1 33)) * 18397679294719823053)) 33)))) 0 b 14695981039346656037)
def m_tree_Place (key : ByteArray) : Option (List Int) :=
 (Option.bind (m_num_Hash (key.data.toList)) fun z7 => (some [(w64 (ishr .u64 z7 60)), (w64 (iand .u64 (ishr .u64 z7 56) 15))]))
def m_slices_Clone_api_Ver_api_Ver (s_ : List Ver) : Option (List Ver) :=
 (nilc s_.isEmpty (
 (some []))
 ((chk (decide (0 + s_.length ≤ lim)) (some (([] : List Ver) ++ s_)))))
def m_slices_Clone_api_Span_api_Span (s_ : List Span) : Option (List Span) :=
 (nilc s_.isEmpty (
 (some []))
 ((chk (decide (0 + s_.length ≤ lim)) (some (([] : List Span) ++ s_)))))
def m_tree_own_b1 (f19 : List Ver → Option Rec) (i20 : Nat) : List Ver → Option Rec := fun x15 =>
 (Option.bind (m_slices_Clone_api_Span_api_Span ((gt x15 i20).past)) fun z30 => (f19 (List.set x15 i20 (⟨(⟨(gt x15 i20).dot.s, (gt x15 i20).dot.n⟩ : Dot), z30, (gt x15 i20).gone, (gt x15 i20).val⟩ : Ver))))
def m_tree_own (r_ : Rec) : Option Rec :=
 (Option.bind (m_slices_Clone_api_Ver_api_Ver r_.vers) fun z3 => (forU (m_tree_own_b1) (fun x15 =>
 (some (⟨r_.key, x15⟩ : Rec))) z3.length 0 z3))
def m_tree_Tree_Set_j2 (z5 : List Int) (o43 : OTree) : Option (OTree × Int) :=
 (some ((⟨o43.leaves, (mdel (2, (gt z5 0), (gt z5 1)) (mdel (1, (gt z5 0), 0) (mdel (0, 0, 0) o43.sums)))⟩ : OTree), 0))
def m_tree_Tree_Set_j1 (r_ : Rec) (z5 : List Int) (o19 : OTree) : Option (OTree × Int) :=
 (Option.bind (gt o19.leaves (0 + ((gt z5 0).toNat) * 16 + ((gt z5 1).toNat) * 1)) fun es32 => (bif (decide (0 < ((r_.vers.length : Nat) : Int))) then
 (Option.bind (gt (⟨(List.set o19.leaves (0 + ((gt z5 0).toNat) * 16 + ((gt z5 1).toNat) * 1) (some (mdel r_.key es32))), o19.sums⟩ : OTree).leaves (0 + ((gt z5 0).toNat) * 16 + ((gt z5 1).toNat) * 1)) fun es49 => (Option.bind (m_tree_own r_) fun z55 => (m_tree_Tree_Set_j2 z5 (⟨(List.set (⟨(List.set o19.leaves (0 + ((gt z5 0).toNat) * 16 + ((gt z5 1).toNat) * 1) (some (mdel r_.key es32))), o19.sums⟩ : OTree).leaves (0 + ((gt z5 0).toNat) * 16 + ((gt z5 1).toNat) * 1) (some (mput r_.key z55 es49))), (⟨(List.set o19.leaves (0 + ((gt z5 0).toNat) * 16 + ((gt z5 1).toNat) * 1) (some (mdel r_.key es32))), o19.sums⟩ : OTree).sums⟩ : OTree))))
 else
 (m_tree_Tree_Set_j2 z5 (⟨(List.set o19.leaves (0 + ((gt z5 0).toNat) * 16 + ((gt z5 1).toNat) * 1) (some (mdel r_.key es32))), o19.sums⟩ : OTree))))
def m_tree_Tree_Set (t_ : OTree) (r_ : Rec) : Option (OTree × Int) :=
 (Option.bind (m_code_RightRec r_) fun z2 => (bif (!z2) then
 (some (t_, 1))
 else
 (Option.bind (m_tree_Place r_.key) fun z5 => (chk (decide (0 < z5.length)) (chk (decide (1 < z5.length)) (chk (inb (gt z5 0) 16) (chk (inb (gt z5 1) 16) (bif (Option.isNone (gt t_.leaves (0 + ((gt z5 0).toNat) * 16 + ((gt z5 1).toNat) * 1))) then
 (m_tree_Tree_Set_j1 r_ z5 (⟨(List.set t_.leaves (0 + ((gt z5 0).toNat) * 16 + ((gt z5 1).toNat) * 1) (some ([] : List (ByteArray × Rec)))), t_.sums⟩ : OTree))
 else
 (m_tree_Tree_Set_j1 r_ z5 t_)))))))))
def m_tree_New_b1 (f11 : OTree → Option ((Option OTree) × Int)) (i12 : Nat) (ei12 : Rec) : OTree → Option ((Option OTree) × Int) := fun o8 =>
 (Option.bind (m_tree_Tree_Set o8 ei12) fun z22 => (bif (z22.2 != 0) then
 (some (none, z22.2))
 else
 (f11 z22.1)))
def m_tree_New (list : List Rec) : Option ((Option OTree) × Int) :=
 (forI (m_tree_New_b1) (fun o8 =>
 (some ((some o8), 0))) 0 list (⟨List.replicate 256 none, []⟩ : OTree))
def m_tree_at_b1 (f8 : List Int → Option ((Int × Int × Int) × Bool)) (i9 : Nat) (ei9 : Int) : List Int → Option ((Int × Int × Int) × Bool) := fun x4 =>
 (bif (((decide (1 < ((i9 : Nat) : Int))) || (decide (ei9 < 0))) || (decide (15 < ei9))) then
 (some (((gt x4 0), (gt x4 1), (gt x4 2)), false))
 else
 (chk (decide (i9 + 1 < 3)) (f8 (List.set x4 (i9 + 1) ei9))))
def m_tree_at (path : List Int) : Option ((Int × Int × Int) × Bool) :=
 (forI (m_tree_at_b1) (fun x4 =>
 (some (((gt x4 0), (gt x4 1), (gt x4 2)), true))) 0 path [((path.length : Nat) : Int), 0, 0])
def m_maps_Copy_map_string_api_Rec_map_string_api_Rec_string_api_Rec_nil_b1 (f2 : Unit → Option Unit) : Unit → Option Unit := fun _ =>
 (some ())
def m_maps_Copy_map_string_api_Rec_map_string_api_Rec_string_api_Rec_nil (dst : List (ByteArray × Rec)) : Option Unit :=
 (loopN (m_maps_Copy_map_string_api_Rec_map_string_api_Rec_string_api_Rec_nil_b1) FU ())
def m_maps_Copy_map_string_api_Rec_map_string_api_Rec_string_api_Rec_b1 : List (ByteArray × Rec) → (ByteArray × Rec) → Option (List (ByteArray × Rec)) := fun m7 en17 =>
 (some (mput en17.1 en17.2 m7))
def m_maps_Copy_map_string_api_Rec_map_string_api_Rec_string_api_Rec (dst : List (ByteArray × Rec)) (src : List (ByteArray × Rec)) : Option (List (ByteArray × Rec)) :=
 (Option.bind (fldO (m_maps_Copy_map_string_api_Rec_map_string_api_Rec_string_api_Rec_b1) dst src) (fun m26 =>
 (some m26)))
def m_tree_Tree_Recs_j21 (f26 : List (ByteArray × Rec) → Option (List Rec)) (m35 : List (ByteArray × Rec)) : Option (List Rec) :=
 (f26 m35)
def m_tree_Tree_Recs_b20 (t_ : OTree) (path : List Int) (i14 : Nat) (f26 : List (ByteArray × Rec) → Option (List Rec)) (i27 : Nat) : List (ByteArray × Rec) → Option (List Rec) := fun m23 =>
 (chk (imp (decide (0 < ((path.length : Nat) : Int))) (decide (0 < path.length))) (chk (imp ((!((decide (0 < ((path.length : Nat) : Int))) && ((gt path 0) != ((i14 : Nat) : Int)))) && (decide (1 < ((path.length : Nat) : Int)))) (decide (1 < path.length))) (bif (((decide (0 < ((path.length : Nat) : Int))) && ((gt path 0) != ((i14 : Nat) : Int))) || ((decide (1 < ((path.length : Nat) : Int))) && ((gt path 1) != ((i27 : Nat) : Int)))) then
 (m_tree_Tree_Recs_j21 f26 m23)
 else
 (optm (gt t_.leaves (0 + i14 * 16 + i27 * 1))
 ((Option.bind (m_maps_Copy_map_string_api_Rec_map_string_api_Rec_string_api_Rec_nil m23) fun z62 => (m_tree_Tree_Recs_j21 f26 m23)))
 fun es58 =>
 (Option.bind (m_maps_Copy_map_string_api_Rec_map_string_api_Rec_string_api_Rec m23 es58) fun z68 => (m_tree_Tree_Recs_j21 f26 z68))))))
def m_tree_Tree_Recs_b22 (m10 : List (ByteArray × Rec)) (f94 : List Rec → Option (List Rec)) (i95 : Nat) (ei95 : ByteArray) : List Rec → Option (List Rec) := fun out_89 =>
 (Option.bind (m_tree_own ((mget ei95 m10).getD (⟨ByteArray.empty, []⟩ : Rec))) fun z108 => (chk (decide (out_89.length + 1 ≤ lim)) (f94 (out_89 ++ [z108]))))
def m_tree_Tree_Recs_b16 (t_ : OTree) (path : List Int) (f13 : List (ByteArray × Rec) → Option (List Rec)) (i14 : Nat) : List (ByteArray × Rec) → Option (List Rec) := fun m10 =>
 (forU (m_tree_Tree_Recs_b20 t_ path i14) (fun m23 =>
 (f13 m23)) 16 0 m10)
def m_tree_Tree_Recs (t_ : OTree) (path : List Int) : Option (List Rec) :=
 (Option.bind (m_tree_at path) fun z1 => (bif (!z1.2) then
 (some [])
 else
 (forU (m_tree_Tree_Recs_b16 t_ path) (fun m10 =>
 (chk (decide (m10.length ≤ lim)) (forI (m_tree_Tree_Recs_b22 m10) (fun out_89 =>
 (some out_89)) 0 (skeys m10) []))) 16 0 ([] : List (ByteArray × Rec)))))
def m_slices_Clone_int_int (s_ : List Int) : Option (List Int) :=
 (nilc s_.isEmpty (
 (some []))
 ((chk (decide (0 + s_.length ≤ lim)) (some (([] : List Int) ++ s_)))))
def m_tree_Tree_Kids_b1 (H : OTree → List Int → Option (OTree × Int)) (path : List Int) (f18 : (List Int) × OTree → Option (OTree × (List Int))) (i19 : Nat) : (List Int) × OTree → Option (OTree × (List Int)) := fun (out_10, o15) =>
 (Option.bind (m_slices_Clone_int_int path) fun z25 => (chk (decide (z25.length + 1 ≤ lim)) (chk (decide ((z25 ++ [((i19 : Nat) : Int)]).length = path.length + 1)) (Option.bind (H o15 (z25 ++ [((i19 : Nat) : Int)])) fun z47 => (chk (decide (out_10.length + 1 ≤ lim)) (f18 ((out_10 ++ [z47.2]), z47.1)))))))
def m_tree_Tree_Kids (H : OTree → List Int → Option (OTree × Int)) (t_ : OTree) (path : List Int) : Option (OTree × (List Int)) :=
 (Option.bind (m_tree_at path) fun z1 => (bif ((!z1.2) || (decide (1 < ((path.length : Nat) : Int)))) then
 (some (t_, []))
 else
 (forU (m_tree_Tree_Kids_b1 H path) (fun (out_10, o15) =>
 (chk (decide (0 < out_10.length)) (some (o15, out_10)))) 16 0 ([], t_))))
def m_num_PutNum_b1 (f7 : (List UInt8) × Int → Option (List UInt8)) : (List UInt8) × Int → Option (List UInt8) := fun (b_1, u_6) =>
 (bif (decide (127 < u_6)) then
 (chk (u8b (ior .u8 (wu8 u_6) 128)) (chk (decide (b_1.length + 1 ≤ lim)) (f7 ((b_1 ++ [(b8 (ior .u8 (wu8 u_6) 128))]), (ishr .u64 u_6 7)))))
 else
 (chk (decide (b_1.length + 1 ≤ lim)) (some (b_1 ++ [(b8 (wu8 u_6))]))))
def m_num_PutNum (n : Int) : Option (List UInt8) :=
 (loopN (m_num_PutNum_b1) FU ([], (wu64 (max n 0))))
def m_num_PutText (s_ : ByteArray) : Option (List UInt8) :=
 (Option.bind (m_num_PutNum ((s_.size : Nat) : Int)) fun z1 => (chk (decide (z1.length + s_.size ≤ lim)) (some (z1 ++ s_.data.toList))))
def m_vers_Mark_b1 (f18 : List UInt8 → Option Int) (i19 : Nat) (ei19 : Ver) : List UInt8 → Option Int := fun b_13 =>
 (Option.bind (m_num_PutNum (ei19.dot.s)) fun z30 => (chk (decide (b_13.length + z30.length ≤ lim)) (Option.bind (m_num_PutNum (ei19.dot.n)) fun z45 => (chk (decide ((b_13 ++ z30).length + z45.length ≤ lim)) (f18 ((b_13 ++ z30) ++ z45))))))
def m_vers_Mark (key : ByteArray) (l : List Ver) : Option Int :=
 (Option.bind (m_num_PutText key) fun z1 => (forI (m_vers_Mark_b1) (fun b_13 =>
 (Option.bind (m_num_Hash b_13) fun z60 => (some z60))) 0 l z1))
def m_tree_halves (b : List UInt8) (h_ : Int) : Option (List UInt8) :=
 (Option.bind (m_num_PutNum (w64 (ishr .u64 h_ 32))) fun z1 => (chk (decide (b.length + z1.length ≤ lim)) (Option.bind (m_num_PutNum (w64 (iand .u64 h_ 4294967295))) fun z16 => (chk (decide ((b ++ z1).length + z16.length ≤ lim)) (some ((b ++ z1) ++ z16))))))
def m_tree_Tree_reckon_b4 (f31 : (List UInt8) × Bool → Option (OTree × Int)) (i32 : Nat) (ei32 : Rec) : (List UInt8) × Bool → Option (OTree × Int) := fun (b_25, some_30) =>
 (Option.bind (m_vers_Mark (ei32.key) (ei32.vers)) fun z42 => (chk (u64b z42) (Option.bind (m_tree_halves b_25 z42) fun z45 => (f31 (z45, true)))))
def m_tree_Tree_reckon_b5 (f85 : List UInt8 → Option (OTree × Int)) (i86 : Nat) (ei86 : Int) : List UInt8 → Option (OTree × Int) := fun b_80 =>
 (Option.bind (m_tree_halves b_80 ei86) fun z92 => (f85 z92))
def m_tree_Tree_reckon_j1 (b_3 : List UInt8) (some_8 : Bool) (o9 : OTree) : Option (OTree × Int) :=
 (bif (!some_8) then
 (some (o9, 0))
 else
 (Option.bind (m_num_Hash b_3) fun z103 => (chk (u64b z103) (some (o9, z103)))))
def m_tree_Tree_reckon (H : OTree → List Int → Option (OTree × Int)) (t_ : OTree) (path : List Int) : Option (OTree × Int) :=
 (bif (((path.length : Nat) : Int) == 2) then
 (Option.bind (m_tree_Tree_Recs t_ path) fun z13 => (forI (m_tree_Tree_reckon_b4) (fun (b_25, some_30) =>
 (m_tree_Tree_reckon_j1 b_25 some_30 t_)) 0 z13 ([], false)))
 else
 (Option.bind (m_tree_Tree_Recs t_ path) fun z55 => (Option.bind (m_tree_Tree_Kids H t_ path) fun z65 => (forI (m_tree_Tree_reckon_b5) (fun b_80 =>
 (m_tree_Tree_reckon_j1 b_80 (decide (0 < ((z55.length : Nat) : Int))) z65.1)) 0 z65.2 []))))
/-- a place's hash: told, or made -/
def m_hashB (H : OTree → List Int → Option (OTree × Int)) (t : OTree) (path : List Int) : Option (OTree × Int) :=
  (m_tree_at path).bind fun k => bif !k.2 then some (t, 0) else
    chk (decide (k.1.1 = (path.length : Int))) (chk (i64b k.1.2.1) (chk (i64b k.1.2.2)
    (match mget k.1 t.sums with
    | some h => some (t, h)
    | none => (m_tree_Tree_reckon H t path).bind fun z => some (⟨z.1.leaves, z.1.sums ++ [(k.1, z.2)]⟩, z.2))))
def m_hashN : Nat → OTree → List Int → Option (OTree × Int)
  | 0 => fun _ _ => none
  | n + 1 => m_hashB (m_hashN n)
def m_tree_Tree_Hash (t : OTree) (path : List Int) : Option (OTree × Int) := m_hashN 3 t path
def m_tree_Differ_j5 (f14 : List Int → Option (List Int)) (out_21 : List Int) : Option (List Int) :=
 (f14 out_21)
def m_tree_Differ_b4 (a : List Int) (b : List Int) (f14 : List Int → Option (List Int)) (i15 : Nat) : List Int → Option (List Int) := fun out_9 =>
 (bif ((gt (List.take (List.replicate 16 0).length a ++ List.drop a.length (List.replicate 16 0)) i15) != (gt (List.take (List.replicate 16 0).length b ++ List.drop b.length (List.replicate 16 0)) i15)) then
 (chk (decide (out_9.length + 1 ≤ lim)) (m_tree_Differ_j5 f14 (out_9 ++ [((i15 : Nat) : Int)])))
 else
 (m_tree_Differ_j5 f14 out_9))
def m_tree_Differ (a : List Int) (b : List Int) : Option (List Int) :=
 (forU (m_tree_Differ_b4 a b) (fun out_9 =>
 (some out_9)) 16 0 [])
def m_firthlaw11_awake  : Option Bool :=
 (Option.bind (m_tree_New []) fun z1 => (bif (!((Option.isNone z1.1) || (z1.2 != 0))) then
 (Option.bind z1.1 fun z15 => (Option.bind (m_tree_Tree_Hash z15 []) fun z18 => (bif (!(z18.2 != 0)) then
 (Option.bind (m_tree_Tree_Kids m_tree_Tree_Hash z18.1 []) fun z29 => (bif (((z29.2.length : Nat) : Int) != 16) then
 (some false)
 else
 (Option.bind (m_tree_Tree_Set z29.1 (⟨(⟨#[107]⟩ : ByteArray), [(⟨(⟨1, 1⟩ : Dot), [], false, ByteArray.empty⟩ : Ver)]⟩ : Rec)) fun z50 => (bif (z50.2 != 0) then
 (some false)
 else
 (Option.bind (m_tree_Tree_Kids m_tree_Tree_Hash z50.1 []) fun z60 => (Option.bind (m_tree_Differ z60.2 []) fun z78 => (Option.bind (m_tree_Place (⟨#[107]⟩ : ByteArray)) fun z88 => (chk (imp ((((z88.length : Nat) : Int) == 2) && (((z78.length : Nat) : Int) == 1)) (decide (0 < z78.length))) (chk (imp ((((z88.length : Nat) : Int) == 2) && (((z78.length : Nat) : Int) == 1)) (decide (0 < z88.length))) (bif (((((z88.length : Nat) : Int) == 2) && (((z78.length : Nat) : Int) == 1)) && ((gt z78 0) == (gt z88 0))) then
 (Option.bind (m_tree_Tree_Hash z60.1 []) fun z118 => (bif (z118.2 != 0) then
 (Option.bind (m_tree_Tree_Recs z118.1 z88) fun z131 => (some (((z131.length : Nat) : Int) == 1)))
 else
 (some false)))
 else
 (some false)))))))))))
 else
 (some false))))
 else
 (some false)))
def m_firthref03_Dot (d : Dot) : Option Bool :=
 (some ((((decide (1 ≤ d.s)) && (decide (d.s ≤ 16))) && (decide (1 ≤ d.n))) && (decide (d.n ≤ 4611686018427387904))))
def m_firthref03_Right_b1 (l : List Span) (f2 : Unit → Option Bool) (i3 : Nat) (ei3 : Span) : Unit → Option Bool := fun _ =>
 (Option.bind (m_firthref03_Dot (⟨ei3.s, ei3.f⟩ : Dot)) fun z9 => (Option.bind (gcall (!(!z9)) (m_firthref03_Dot (⟨ei3.s, ei3.t⟩ : Dot))) fun z23 => (bif (((!z9) || (!z23)) || (decide (ei3.t < ei3.f))) then
 (some false)
 else
 (chk (imp (decide (0 < ((i3 : Nat) : Int))) (inb (w64 (((i3 : Nat) : Int) - 1)) l.length)) (bif ((decide (0 < ((i3 : Nat) : Int))) && ((decide (ei3.s < (gt l ((w64 (((i3 : Nat) : Int) - 1)).toNat)).s)) || ((ei3.s == (gt l ((w64 (((i3 : Nat) : Int) - 1)).toNat)).s) && (decide ((w64 (ei3.f - 1)) ≤ (gt l ((w64 (((i3 : Nat) : Int) - 1)).toNat)).t))))) then
 (some false)
 else
 (f2 ()))))))
def m_firthref03_Right (l : List Span) : Option Bool :=
 (bif (decide (1024 < ((l.length : Nat) : Int))) then
 (some false)
 else
 (forI (m_firthref03_Right_b1 l) (fun _ =>
 (some true)) 0 l ()))
def m_firthref03_Top_j6 (f3 : Int → Option Int) (n_10 : Int) : Option Int :=
 (f3 n_10)
def m_firthref03_Top_b5 (s_ : Int) (f3 : Int → Option Int) (i4 : Nat) (ei4 : Span) : Int → Option Int := fun n_1 =>
 (bif ((ei4.s == s_) && (decide (n_1 < ei4.t))) then
 (m_firthref03_Top_j6 f3 (ei4.t))
 else
 (m_firthref03_Top_j6 f3 n_1))
def m_firthref03_Top (l : List Span) (s_ : Int) : Option Int :=
 (forI (m_firthref03_Top_b5 s_) (fun n_1 =>
 (some n_1)) 0 l 0)
def m_firthref05_RightOne (v_ : Ver) : Option Bool :=
 (Option.bind (m_firthref03_Dot v_.dot) fun z2 => (Option.bind (gcall (!(!z2)) (m_firthref03_Right v_.past)) fun z7 => (Option.bind (gcall (!((!z2) || (!z7))) (m_firthref03_Top v_.past v_.dot.s)) fun z16 => (bif (((!z2) || (!z7)) || (decide (v_.dot.n ≤ z16))) then
 (some false)
 else
 (bif v_.gone then
 (some (v_.val == ByteArray.empty))
 else
 (some (decide (((v_.val.size : Nat) : Int) ≤ 256))))))))
def m_firthref03_Has_b1 (d : Dot) (f2 : Unit → Option Bool) (i3 : Nat) (ei3 : Span) : Unit → Option Bool := fun _ =>
 (bif (((ei3.s == d.s) && (decide (ei3.f ≤ d.n))) && (decide (d.n ≤ ei3.t))) then
 (some true)
 else
 (f2 ()))
def m_firthref03_Has (l : List Span) (d : Dot) : Option Bool :=
 (forI (m_firthref03_Has_b1 d) (fun _ =>
 (some false)) 0 l ())
def m_firthref05_Behind_b1 (d : Dot) (f2 : Unit → Option Bool) (i3 : Nat) (ei3 : Ver) : Unit → Option Bool := fun _ =>
 (Option.bind (m_firthref03_Has (ei3.past) d) fun z12 => (bif z12 then
 (some true)
 else
 (f2 ())))
def m_firthref05_Behind (l : List Ver) (d : Dot) : Option Bool :=
 (forI (m_firthref05_Behind_b1 d) (fun _ =>
 (some false)) 0 l ())
def m_firthref05_Less (a : Dot) (b : Dot) : Option Bool :=
 (bif (a.s != b.s) then
 (some (decide (a.s < b.s)))
 else
 (some (decide (a.n < b.n))))
def m_firthref05_Right_b1 (l : List Ver) (f2 : Unit → Option Bool) (i3 : Nat) (ei3 : Ver) : Unit → Option Bool := fun _ =>
 (Option.bind (m_firthref05_RightOne ei3) fun z12 => (Option.bind (gcall (!(!z12)) (m_firthref05_Behind l (ei3.dot))) fun z21 => (bif ((!z12) || z21) then
 (some false)
 else
 (chk (imp (decide (0 < ((i3 : Nat) : Int))) (inb (w64 (((i3 : Nat) : Int) - 1)) l.length)) (Option.bind (gcall (decide (0 < ((i3 : Nat) : Int))) (m_firthref05_Less ((gt l ((w64 (((i3 : Nat) : Int) - 1)).toNat)).dot) (ei3.dot))) fun z40 => (bif ((decide (0 < ((i3 : Nat) : Int))) && (!z40)) then
 (some false)
 else
 (f2 ())))))))
def m_firthref05_Right (l : List Ver) : Option Bool :=
 (bif (decide (512 < ((l.length : Nat) : Int))) then
 (some false)
 else
 (forI (m_firthref05_Right_b1 l) (fun _ =>
 (some true)) 0 l ()))
def m_firthref06_RightRec (r_ : Rec) : Option Bool :=
 (Option.bind (gcall ((r_.key != ByteArray.empty) && (decide (((r_.key.size : Nat) : Int) ≤ 32))) (m_firthref05_Right r_.vers)) fun z9 => (some (((r_.key != ByteArray.empty) && (decide (((r_.key.size : Nat) : Int) ≤ 32))) && z9)))
def m_firthref10_With_j11 (f8 : (List Rec) × Bool → Option (List Rec)) (out_15 : List Rec) (laid_20 : Bool) : Option (List Rec) :=
 (f8 (out_15, laid_20))
def m_firthref10_With_j13 (l : List Rec) (f8 : (List Rec) × Bool → Option (List Rec)) (i9 : Nat) (out_25 : List Rec) (laid_30 : Bool) : Option (List Rec) :=
 (chk (decide (out_25.length + 1 ≤ lim)) (m_firthref10_With_j11 f8 (out_25 ++ [(gt l i9)]) laid_30))
def m_firthref10_With_b10 (l : List Rec) (r_ : Rec) (f8 : (List Rec) × Bool → Option (List Rec)) (i9 : Nat) (ei9 : Rec) : (List Rec) × Bool → Option (List Rec) := fun (out_2, laid_7) =>
 (bif (ei9.key == r_.key) then
 (m_firthref10_With_j11 f8 out_2 laid_7)
 else
 (bif ((!laid_7) && (strLt r_.key (ei9.key))) then
 (chk (decide (out_2.length + 1 ≤ lim)) (m_firthref10_With_j13 l f8 i9 (out_2 ++ [r_]) true))
 else
 (m_firthref10_With_j13 l f8 i9 out_2 laid_7)))
def m_firthref10_With (l : List Rec) (r_ : Rec) : Option (List Rec) :=
 (forI (m_firthref10_With_b10 l r_) (fun (out_2, laid_7) =>
 (bif (!laid_7) then
 (chk (decide (out_2.length + 1 ≤ lim)) (some (out_2 ++ [r_])))
 else
 (some out_2))) 0 l ([], (((r_.vers.length : Nat) : Int) == 0)))
def m_firthlaw11_built_j5 (f27 : (List Rec) × OTree → Option ((Option OTree) × (List Rec) × Bool)) (all_36 : List Rec) (o41 : OTree) : Option ((Option OTree) × (List Rec) × Bool) :=
 (f27 (all_36, o41))
def m_firthlaw11_built_b4 (f27 : (List Rec) × OTree → Option ((Option OTree) × (List Rec) × Bool)) (i28 : Nat) (ei28 : Rec) : (List Rec) × OTree → Option ((Option OTree) × (List Rec) × Bool) := fun (all_19, o24) =>
 (Option.bind (m_tree_Tree_Set o24 ei28) fun z47 => (Option.bind (m_firthref06_RightRec ei28) fun z56 => (bif (!z56) then
 (bif (z47.2 != 1) then
 (some (none, [], false))
 else
 (m_firthlaw11_built_j5 f27 all_19 z47.1))
 else
 (bif (z47.2 != 0) then
 (some (none, [], false))
 else
 (Option.bind (m_firthref10_With all_19 ei28) fun z66 => (m_firthlaw11_built_j5 f27 z66 z47.1))))))
def m_firthlaw11_built (list : List Rec) : Option ((Option OTree) × (List Rec) × Bool) :=
 (Option.bind (m_tree_New []) fun z1 => (bif ((Option.isNone z1.1) || (z1.2 != 0)) then
 (some (none, [], false))
 else
 (Option.bind z1.1 fun z14 => (forI (m_firthlaw11_built_b4) (fun (all_19, o24) =>
 (some ((some o24), all_19, true))) 0 list ([], z14)))))
/-- what is asked of whoever answers for firth/firthref11.Hash -/
def C_firthref11_Hash (H : List Rec → List Int → Option Int) : Prop := ∀ {Γ : Gh} {w0 : World} {Aall : Option Addr} {call : Nat} {all : List Rec} (hall : Sl recT Γ Aall all) (hallc : all.length ≤ call) {Apath : Option Addr} {cpath : Nat} {path : List Int} (hpath : Sl intT Γ Apath path) (hpathc : path.length ≤ cpath) (hs : Sat Γ w0) {r : Int} (h : H all path = some r), Calls Tryz.prog 8 #[.slice Aall all.length call, .slice Apath path.length cpath] w0 (fun e w' => e = .returned (.int .u64 r) ∧ Fr no w0 w')
def m_firthref11_Path_b1 (f1 : Unit → Option Bool) (i2 : Nat) (ei2 : Int) : Unit → Option Bool := fun _ =>
 (bif ((decide (ei2 < 0)) || (decide (15 < ei2))) then
 (some false)
 else
 (f1 ()))
def m_firthref11_Path (path : List Int) : Option Bool :=
 (forI (m_firthref11_Path_b1) (fun _ =>
 (some (decide (((path.length : Nat) : Int) ≤ 2)))) 0 path ())
def m_firthref01_Hash_b1 (f3 : Int → Option Int) (i4 : Nat) (ei4 : UInt8) : Int → Option Int := fun h_1 =>
 (f3 (wu64 ((ixor .u64 h_1 (wu64 ((ei4.toNat : Nat) : Int))) * 1099511628211)))
def m_firthref01_Hash (b : List UInt8) : Option Int :=
 (forI (m_firthref01_Hash_b1) (fun h_1 =>
 (some (ixor .u64 (wu64 ((ixor .u64 h_1 (wu64 (h_1.tdiv 8589934592))) * 18397679294719823053)) (wu64 ((wu64 ((ixor .u64 h_1 (wu64 (h_1.tdiv 8589934592))) * 18397679294719823053)).tdiv 8589934592))))) 0 b 14695981039346656037)
def m_firthref11_Place (key : ByteArray) : Option (List Int) :=
 (Option.bind (m_firthref01_Hash (key.data.toList)) fun z7 => (some [(w64 (wu64 (z7.tdiv 1152921504606846976))), (w64 ((wu64 (z7.tdiv 72057594037927936)).tmod 16))]))
def m_firthref11_Recs_b13 (z30 : List Int) (f41 : Bool → Option (List Rec)) (i42 : Nat) (ei42 : Int) : Bool → Option (List Rec) := fun in_40 =>
 (chk (imp in_40 (decide (i42 < z30.length))) (f41 (in_40 && ((gt z30 i42) == ei42))))
def m_firthref11_Recs_j11 (i_8 : Int) (f10 : (List Rec) × Int → Option (List Rec)) (out_21 : List Rec) : Option (List Rec) :=
 (f10 (out_21, (w64 (i_8 + 1))))
def m_firthref11_Recs_b10 (all : List Rec) (path : List Int) (f10 : (List Rec) × Int → Option (List Rec)) : (List Rec) × Int → Option (List Rec) := fun (out_3, i_8) =>
 (Option.bind (gcall (decide (i_8 < ((all.length : Nat) : Int))) (m_firthref11_Path path)) fun z16 => (bif ((decide (i_8 < ((all.length : Nat) : Int))) && z16) then
 (chk (inb i_8 all.length) (Option.bind (m_firthref11_Place ((gt all i_8.toNat).key)) fun z30 => (forI (m_firthref11_Recs_b13 z30) (fun in_40 =>
 (bif in_40 then
 (chk (decide (out_3.length + 1 ≤ lim)) (m_firthref11_Recs_j11 i_8 f10 (out_3 ++ [(gt all i_8.toNat)])))
 else
 (m_firthref11_Recs_j11 i_8 f10 out_3))) 0 path true)))
 else
 (some out_3)))
def m_firthref11_Recs (all : List Rec) (path : List Int) : Option (List Rec) :=
 (loopN (m_firthref11_Recs_b10 all path) FU ([], 0))
def m_firthref01_PutNum_b2 (f11 : Int × (List UInt8) → Option (List UInt8)) : Int × (List UInt8) → Option (List UInt8) := fun (n_4, b_6) =>
 (bif (decide (128 ≤ n_4)) then
 (chk (decide (b_6.length + 1 ≤ lim)) (f11 ((w64 (n_4.tdiv 128)), (b_6 ++ [(b8 (wu8 (w64 ((n_4.tmod 128) + 128))))]))))
 else
 (chk (decide (b_6.length + 1 ≤ lim)) (some (b_6 ++ [(b8 (wu8 n_4))]))))
def m_firthref01_PutNum_j1 (n_1 : Int) : Option (List UInt8) :=
 (loopN (m_firthref01_PutNum_b2) FU (n_1, []))
def m_firthref01_PutNum (n : Int) : Option (List UInt8) :=
 (bif (decide (n < 0)) then
 (m_firthref01_PutNum_j1 0)
 else
 (m_firthref01_PutNum_j1 n))
def m_firthref01_PutText_b1 (s_ : ByteArray) (f16 : List UInt8 → Option (List UInt8)) (i17 : Nat) : List UInt8 → Option (List UInt8) := fun b_11 =>
 (chk (decide (b_11.length + 1 ≤ lim)) (f16 (b_11 ++ [(gt s_.data.toList i17)])))
def m_firthref01_PutText (s_ : ByteArray) : Option (List UInt8) :=
 (Option.bind (m_firthref01_PutNum ((s_.size : Nat) : Int)) fun z1 => (forU (m_firthref01_PutText_b1 s_) (fun b_11 =>
 (some b_11)) s_.size 0 z1))
def m_firthref05_Mark_b1 (f18 : List UInt8 → Option Int) (i19 : Nat) (ei19 : Ver) : List UInt8 → Option Int := fun b_13 =>
 (Option.bind (m_firthref01_PutNum (ei19.dot.s)) fun z28 => (chk (decide (b_13.length + z28.length ≤ lim)) (Option.bind (m_firthref01_PutNum (ei19.dot.n)) fun z43 => (chk (decide ((b_13 ++ z28).length + z43.length ≤ lim)) (f18 ((b_13 ++ z28) ++ z43))))))
def m_firthref05_Mark (key : ByteArray) (l : List Ver) : Option Int :=
 (Option.bind (m_firthref01_PutText key) fun z1 => (forI (m_firthref05_Mark_b1) (fun b_13 =>
 (Option.bind (m_firthref01_Hash b_13) fun z58 => (some z58))) 0 l z1))
def m_firthref11_halves (b : List UInt8) (h_ : Int) : Option (List UInt8) :=
 (Option.bind (m_firthref01_PutNum (w64 (wu64 (h_.tdiv 4294967296)))) fun z1 => (chk (decide (b.length + z1.length ≤ lim)) (Option.bind (m_firthref01_PutNum (w64 (h_.tmod 4294967296))) fun z16 => (chk (decide ((b ++ z1).length + z16.length ≤ lim)) (some ((b ++ z1) ++ z16))))))
def m_firthref11_longer (path : List Int) (d : Int) : Option (List Int) :=
 (chk (decide (0 + path.length ≤ lim)) (chk (decide (path.length + 1 ≤ lim)) (some (path ++ [d]))))
def m_firthref11_Text_b1 (f19 : List UInt8 → Option (List UInt8)) (i20 : Nat) (ei20 : Rec) : List UInt8 → Option (List UInt8) := fun b_14 =>
 (Option.bind (m_firthref05_Mark (ei20.key) (ei20.vers)) fun z30 => (chk (u64b z30) (Option.bind (m_firthref11_halves b_14 z30) fun z33 => (f19 z33))))
def m_firthref11_Text_b2 (H : List Rec → List Int → Option Int) (path : List Int) (z1 : List Rec) (f50 : List UInt8 → Option (List UInt8)) (i51 : Nat) : List UInt8 → Option (List UInt8) := fun b_45 =>
 (Option.bind (m_firthref11_longer path ((i51 : Nat) : Int)) fun z57 => (Option.bind (H z1 z57) fun z67 => (chk (u64b z67) (Option.bind (m_firthref11_halves b_45 z67) fun z70 => (f50 z70)))))
def m_firthref11_Text (H : List Rec → List Int → Option Int) (all : List Rec) (path : List Int) : Option (List UInt8) :=
 (Option.bind (m_firthref11_Recs all path) fun z1 => (bif (((path.length : Nat) : Int) == 2) then
 (forI (m_firthref11_Text_b1) (fun b_14 =>
 (some b_14)) 0 z1 [])
 else
 (forU (m_firthref11_Text_b2 H path z1) (fun b_45 =>
 (some b_45)) 16 0 [])))
def m_firthref11_Hash_o (H : List Rec → List Int → Option Int) (all : List Rec) (path : List Int) : Option Int :=
 (Option.bind (m_firthref11_Path path) fun z1 => (bif (!(!z1)) then
 (Option.bind (m_firthref11_Recs all path) fun z6 => (bif (((z6.length : Nat) : Int) == 0) then
 (some 0)
 else
 (Option.bind (m_firthref11_Text H all path) fun z17 => (Option.bind (m_firthref01_Hash z17) fun z27 => (some z27)))))
 else
 (some 0)))
def m_firthref11_Hash_n : Nat → List Rec → List Int → Option Int
  | 0 => fun _ _ => none
  | n + 1 => m_firthref11_Hash_o (m_firthref11_Hash_n n)
def m_firthref11_Hash (all : List Rec) (path : List Int) : Option Int := m_firthref11_Hash_n 3 all path

def m_firthref11_Kids_b1 (all : List Rec) (path : List Int) (f10 : (List Int) × Int → Option (List Int)) : (List Int) × Int → Option (List Int) := fun (out_3, d_8) =>
 (Option.bind (gcall (decide (d_8 < 16)) (m_firthref11_Path path)) fun z16 => (bif (((decide (d_8 < 16)) && z16) && (decide (((path.length : Nat) : Int) < 2))) then
 (Option.bind (m_firthref11_longer path d_8) fun z22 => (Option.bind (m_firthref11_Hash all z22) fun z32 => (chk (u64b z32) (chk (decide (out_3.length + 1 ≤ lim)) (f10 ((out_3 ++ [z32]), (w64 (d_8 + 1))))))))
 else
 (some out_3)))
def m_firthref11_Kids (all : List Rec) (path : List Int) : Option (List Int) :=
 (loopN (m_firthref11_Kids_b1 all path) FU ([], 0))
def m_firthref06_Hashes_b1 (b : List Int) (f2 : Unit → Option Bool) (i3 : Nat) (ei3 : Int) : Unit → Option Bool := fun _ =>
 (chk (decide (i3 < b.length)) (bif (ei3 != (gt b i3)) then
 (some false)
 else
 (f2 ())))
def m_firthref06_Hashes (a : List Int) (b : List Int) : Option Bool :=
 (bif (((a.length : Nat) : Int) != ((b.length : Nat) : Int)) then
 (some false)
 else
 (forI (m_firthref06_Hashes_b1 b) (fun _ =>
 (some true)) 0 a ()))
def m_firthref03_Same_b1 (b : List Span) (f2 : Unit → Option Bool) (i3 : Nat) (ei3 : Span) : Unit → Option Bool := fun _ =>
 (chk (decide (i3 < b.length)) (bif (ei3 != (gt b i3)) then
 (some false)
 else
 (f2 ())))
def m_firthref03_Same (a : List Span) (b : List Span) : Option Bool :=
 (bif (((a.length : Nat) : Int) != ((b.length : Nat) : Int)) then
 (some false)
 else
 (forI (m_firthref03_Same_b1 b) (fun _ =>
 (some true)) 0 a ()))
def m_firthref05_SameOne (a : Ver) (b : Ver) : Option Bool :=
 (Option.bind (gcall (((a.dot == b.dot) && (a.gone == b.gone)) && (a.val == b.val)) (m_firthref03_Same a.past b.past)) fun z18 => (some ((((a.dot == b.dot) && (a.gone == b.gone)) && (a.val == b.val)) && z18)))
def m_firthref05_Same_b1 (b : List Ver) (f2 : Unit → Option Bool) (i3 : Nat) (ei3 : Ver) : Unit → Option Bool := fun _ =>
 (chk (decide (i3 < b.length)) (Option.bind (m_firthref05_SameOne ei3 (gt b i3)) fun z16 => (bif (!z16) then
 (some false)
 else
 (f2 ()))))
def m_firthref05_Same (a : List Ver) (b : List Ver) : Option Bool :=
 (bif (((a.length : Nat) : Int) != ((b.length : Nat) : Int)) then
 (some false)
 else
 (forI (m_firthref05_Same_b1 b) (fun _ =>
 (some true)) 0 a ()))
def m_firthref06_SameRecs_b1 (b : List Rec) (f2 : Unit → Option Bool) (i3 : Nat) (ei3 : Rec) : Unit → Option Bool := fun _ =>
 (chk (decide (i3 < b.length)) (Option.bind (gcall (!(ei3.key != (gt b i3).key)) (m_firthref05_Same (ei3.vers) ((gt b i3).vers))) fun z27 => (bif ((ei3.key != (gt b i3).key) || (!z27)) then
 (some false)
 else
 (f2 ()))))
def m_firthref06_SameRecs (a : List Rec) (b : List Rec) : Option Bool :=
 (bif (((a.length : Nat) : Int) != ((b.length : Nat) : Int)) then
 (some false)
 else
 (forI (m_firthref06_SameRecs_b1 b) (fun _ =>
 (some true)) 0 a ()))
def m_firthlaw11_TreePlays (list : List Rec) (path : List Int) : Option Bool :=
 (Option.bind (m_firthlaw11_awake) fun z1 => (bif (!z1) then
 (some false)
 else
 (Option.bind (m_firthlaw11_built list) fun z4 => (bif (!z4.2.2) then
 (some false)
 else
 (Option.bind z4.1 fun z18 => (Option.bind (m_tree_Tree_Hash z18 path) fun z21 => (Option.bind (m_firthref11_Hash z4.2.1 path) fun z30 => (bif (z21.2 == z30) then
 (Option.bind (m_tree_Tree_Kids m_tree_Tree_Hash z21.1 path) fun z35 => (Option.bind (m_firthref11_Kids z4.2.1 path) fun z53 => (Option.bind (m_firthref06_Hashes z35.2 z53) fun z63 => (bif z63 then
 (Option.bind (m_tree_Tree_Recs z35.1 path) fun z68 => (Option.bind (m_firthref11_Recs z4.2.1 path) fun z78 => (Option.bind (m_firthref06_SameRecs z68 z78) fun z88 => (bif z88 then
 (Option.bind (m_tree_Tree_Hash z35.1 []) fun z92 => (Option.bind (m_firthref11_Hash z4.2.1 []) fun z101 => (some (z92.2 == z101))))
 else
 (some false)))))
 else
 (some false)))))
 else
 (some false)))))))))
def m_firthref10_Own_b1 (f11 : List Ver → Option Rec) (i12 : Nat) (ei12 : Ver) : List Ver → Option Rec := fun x6 =>
 (chk (decide (0 + (ei12.past).length ≤ lim)) (chk (decide (x6.length + 1 ≤ lim)) (f11 (x6 ++ [ei12]))))
def m_firthref10_Own (r_ : Rec) : Option Rec :=
 (forI (m_firthref10_Own_b1) (fun x6 =>
 (some (⟨r_.key, x6⟩ : Rec))) 0 r_.vers [])









def m_firthlaw11_TreeKeeps (r_ : Rec) : Option Bool :=
 (Option.bind (m_firthlaw11_awake) fun z2 => (Option.bind (gcall (!(!z2)) (m_firthref06_RightRec r_)) fun z6 => (bif ((!z2) || (!z6)) then
 (Option.bind (m_firthlaw11_awake) fun z10 => (some z10))
 else
 (Option.bind (m_firthref10_Own r_) fun z12 => (Option.bind (m_tree_New [z12]) fun z24 => (bif ((Option.isNone z24.1) || (z24.2 != 0)) then
 (some false)
 else
 (Option.bind z24.1 fun z37 => (Option.bind (m_tree_Tree_Recs z37 []) fun z82 => (Option.bind (m_firthref10_With [] r_) fun z158 => (Option.bind (m_tree_Tree_Recs z37 []) fun z168 => (Option.bind (m_firthref06_SameRecs z168 z158) fun z181 => (bif z181 then
 (Option.bind (m_tree_Tree_Hash z37 []) fun z185 => (Option.bind (m_firthref11_Hash z158 []) fun z194 => (some (z185.2 == z194))))
 else
 (some false)))))))))))))
end Fw
end Go.Proofs.YtmmnpinpcgidnaaGreat
