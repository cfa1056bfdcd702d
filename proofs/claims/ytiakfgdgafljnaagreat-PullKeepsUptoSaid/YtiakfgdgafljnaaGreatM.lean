/- What the functions compute, as Lean functions (printed by a program). No condition. -/
import Derived.Test.YtiakfgdgafljnaaGreatE
import Derived.Test.YtiakfgdgafljnaaGreatK14
import Derived.Test.YtiakfgdgafljnaaGreatK15
import Derived.Test.YtiakfgdgafljnaaGreatK17
import Derived.Test.YtiakfgdgafljnaaGreatK18
import Derived.Test.YtiakfgdgafljnaaGreatK19
import Derived.Test.YtiakfgdgafljnaaGreatK20
import Derived.Test.YtiakfgdgafljnaaGreatK21
import Derived.Test.YtiakfgdgafljnaaGreatK27
import Derived.Test.YtiakfgdgafljnaaGreatK28
import Derived.Test.YtiakfgdgafljnaaGreatK29
import Derived.Test.YtiakfgdgafljnaaGreatK30
namespace Go.Proofs.YtiakfgdgafljnaaGreat
namespace Fw
set_option linter.unusedVariables false
set_option linter.unusedSimpArgs false
set_option linter.unusedSectionVars false
open Go.RowKit
structure OTree where
  leaves : List (Option (List (ByteArray × Rec)))
  sums : List ((Int × Int × Int) × Int)
  deriving Inhabited, DecidableEq
structure Opull_Cut where
  id : Int
  vec : (List Int)
  tree : OTree
  deriving Inhabited, DecidableEq
structure Opull_Pull where
  id : Int
  own : OTree
  begun : Bool
  vec : (List Int)
  wants : (List Dpull_way)
  staged : OTree
  deriving Inhabited, DecidableEq
def m_firthlaw19_k  : Option (List Rec) :=
 (some [(⟨(⟨#[107]⟩ : ByteArray), [(⟨(⟨1, 1⟩ : Dot), [], false, (⟨#[118]⟩ : ByteArray)⟩ : Ver)]⟩ : Rec)])
def m_span_Right_b1 (f4 : Span → Option Bool) (i5 : Nat) (ei5 : Span) : Span → Option Bool := fun x2 =>
 (bif (((((((decide (ei5.s < 1)) || (decide (16 < ei5.s))) || (decide (ei5.f < 1))) || (decide (ei5.t < ei5.f))) || (decide (4611686018427387904 < ei5.t))) || (decide (ei5.s < x2.s))) || ((ei5.s == x2.s) && (decide (ei5.f ≤ (w64 (x2.t + 1)))))) then
 (some false)
 else
 (f4 ei5))
def m_span_Right (l : List Span) : Option Bool :=
 (forI (m_span_Right_b1) (fun x2 =>
 (some (decide (((l.length : Nat) : Int) ≤ 1024)))) 0 l (⟨0, 0, 0⟩ : Span))
def m_span_Top_j6 (f3 : Int → Option Int) (top_10 : Int) : Option Int :=
 (f3 top_10)
def m_span_Top_b5 (s_ : Int) (f3 : Int → Option Int) (i4 : Nat) (ei4 : Span) : Int → Option Int := fun top_1 =>
 (bif (ei4.s == s_) then
 (m_span_Top_j6 f3 (max top_1 ei4.t))
 else
 (m_span_Top_j6 f3 top_1))
def m_span_Top (l : List Span) (s_ : Int) : Option Int :=
 (forI (m_span_Top_b5 s_) (fun top_1 =>
 (some top_1)) 0 l 0)
def m_vers_RightOne (v_ : Ver) : Option Bool :=
 (Option.bind (m_span_Right [(⟨v_.dot.s, v_.dot.n, v_.dot.n⟩ : Span)]) fun z6 => (Option.bind (gcall z6 (m_span_Right v_.past)) fun z11 => (Option.bind (gcall (z6 && z11) (m_span_Top v_.past v_.dot.s)) fun z22 => (some ((((z6 && z11) && (decide (z22 < v_.dot.n))) && (decide (((v_.val.size : Nat) : Int) ≤ 256))) && ((!v_.gone) || (v_.val == ByteArray.empty)))))))
def m_vers_before (a : Dot) (b : Dot) : Option Bool :=
 (some ((decide (a.s < b.s)) || ((a.s == b.s) && (decide (a.n < b.n)))))
def m_span_Has_b1 (d : Dot) (f2 : Unit → Option Bool) (i3 : Nat) (ei3 : Span) : Unit → Option Bool := fun _ =>
 (bif (((ei3.s == d.s) && (decide (ei3.f ≤ d.n))) && (decide (d.n ≤ ei3.t))) then
 (some true)
 else
 (f2 ()))
def m_span_Has (l : List Span) (d : Dot) : Option Bool :=
 (forI (m_span_Has_b1 d) (fun _ =>
 (some false)) 0 l ())
def m_vers_behind_b1 (d : Dot) (f2 : Unit → Option Bool) (i3 : Nat) (ei3 : Ver) : Unit → Option Bool := fun _ =>
 (Option.bind (m_span_Has (ei3.past) d) fun z13 => (bif z13 then
 (some true)
 else
 (f2 ())))
def m_vers_behind (d : Dot) (l : List Ver) : Option Bool :=
 (forI (m_vers_behind_b1 d) (fun _ =>
 (some false)) 0 l ())
def m_vers_Right_b1 (l : List Ver) (f1 : Unit → Option Bool) (i2 : Nat) (ei2 : Ver) : Unit → Option Bool := fun _ =>
 (Option.bind (m_vers_RightOne ei2) fun z12 => (chk (imp ((!(!z12)) && (decide (0 < ((i2 : Nat) : Int)))) (inb (w64 (((i2 : Nat) : Int) - 1)) l.length)) (Option.bind (gcall ((!(!z12)) && (decide (0 < ((i2 : Nat) : Int)))) (m_vers_before ((gt l ((w64 (((i2 : Nat) : Int) - 1)).toNat)).dot) (ei2.dot))) fun z30 => (Option.bind (gcall (!((!z12) || ((decide (0 < ((i2 : Nat) : Int))) && (!z30)))) (m_vers_behind (ei2.dot) l)) fun z38 => (bif (((!z12) || ((decide (0 < ((i2 : Nat) : Int))) && (!z30))) || z38) then
 (some false)
 else
 (f1 ()))))))
def m_vers_Right (l : List Ver) : Option Bool :=
 (forI (m_vers_Right_b1 l) (fun _ =>
 (some (decide (((l.length : Nat) : Int) ≤ 512)))) 0 l ())
def m_code_RightRec (r_ : Rec) : Option Bool :=
 (Option.bind (gcall ((decide (1 ≤ ((r_.key.size : Nat) : Int))) && (decide (((r_.key.size : Nat) : Int) ≤ 32))) (m_vers_Right r_.vers)) fun z9 => (some (((decide (1 ≤ ((r_.key.size : Nat) : Int))) && (decide (((r_.key.size : Nat) : Int) ≤ 32))) && z9)))
def m_num_Hash_b1 (f3 : Int → Option Int) (i4 : Nat) (ei4 : UInt8) : Int → Option Int := fun h_1 =>
 (f3 (wu64 ((ixor .u64 h_1 (wu64 ((ei4.toNat : Nat) : Int))) * 1099511628211)))
def m_num_Hash (b : List UInt8) : Option Int :=
 (forI (m_num_Hash_b1) (fun h_1 =>
 (some (ixor .u64 (wu64 ((ixor .u64 h_1 (ishr .u64 h_1 33)) * 18397679294719823053)) (ishr .u64 (wu64 ((ixor .u64 h_1 (ishr .u64 h_1 33)) * 18397679294719823053)) 33)))) 0 b 14695981039346656037)
def m_tree_Place (key : ByteArray) : Option (List Int) :=
 (Option.bind (m_num_Hash (key.data.toList)) fun z7 => (some [(w64 (ishr .u64 z7 60)), (w64 (iand .u64 (ishr .u64 z7 56) 15))]))
def m_slices_Clone_api_Ver_api_Ver (s_ : List Ver) : Option (List Ver) :=
 (nilc s_.isEmpty (
 (some []))
 ((chk (decide (0 + s_.length ≤ lim)) (some (([] : List Ver) ++ s_)))))
def m_slices_Clone_api_Span_api_Span (s_ : List Span) : Option (List Span) :=
 (nilc s_.isEmpty (
 (some []))
 ((chk (decide (0 + s_.length ≤ lim)) (some (([] : List Span) ++ s_)))))
def m_tree_own_b1 (f19 : List Ver → Option Rec) (i20 : Nat) : List Ver → Option Rec := fun x15 =>
 (Option.bind (m_slices_Clone_api_Span_api_Span ((gt x15 i20).past)) fun z30 => (f19 (List.set x15 i20 (⟨(⟨(gt x15 i20).dot.s, (gt x15 i20).dot.n⟩ : Dot), z30, (gt x15 i20).gone, (gt x15 i20).val⟩ : Ver))))
def m_tree_own (r_ : Rec) : Option Rec :=
 (Option.bind (m_slices_Clone_api_Ver_api_Ver r_.vers) fun z3 => (forU (m_tree_own_b1) (fun x15 =>
 (some (⟨r_.key, x15⟩ : Rec))) z3.length 0 z3))
def m_tree_Tree_Set_j2 (z5 : List Int) (o43 : OTree) : Option (OTree × Int) :=
 (some ((⟨o43.leaves, (mdel (2, (gt z5 0), (gt z5 1)) (mdel (1, (gt z5 0), 0) (mdel (0, 0, 0) o43.sums)))⟩ : OTree), 0))
def m_tree_Tree_Set_j1 (r_ : Rec) (z5 : List Int) (o19 : OTree) : Option (OTree × Int) :=
 (Option.bind (gt o19.leaves (0 + ((gt z5 0).toNat) * 16 + ((gt z5 1).toNat) * 1)) fun es32 => (bif (decide (0 < ((r_.vers.length : Nat) : Int))) then
 (Option.bind (gt (⟨(List.set o19.leaves (0 + ((gt z5 0).toNat) * 16 + ((gt z5 1).toNat) * 1) (some (mdel r_.key es32))), o19.sums⟩ : OTree).leaves (0 + ((gt z5 0).toNat) * 16 + ((gt z5 1).toNat) * 1)) fun es49 => (Option.bind (m_tree_own r_) fun z55 => (m_tree_Tree_Set_j2 z5 (⟨(List.set (⟨(List.set o19.leaves (0 + ((gt z5 0).toNat) * 16 + ((gt z5 1).toNat) * 1) (some (mdel r_.key es32))), o19.sums⟩ : OTree).leaves (0 + ((gt z5 0).toNat) * 16 + ((gt z5 1).toNat) * 1) (some (mput r_.key z55 es49))), (⟨(List.set o19.leaves (0 + ((gt z5 0).toNat) * 16 + ((gt z5 1).toNat) * 1) (some (mdel r_.key es32))), o19.sums⟩ : OTree).sums⟩ : OTree))))
 else
 (m_tree_Tree_Set_j2 z5 (⟨(List.set o19.leaves (0 + ((gt z5 0).toNat) * 16 + ((gt z5 1).toNat) * 1) (some (mdel r_.key es32))), o19.sums⟩ : OTree))))
def m_tree_Tree_Set (t_ : OTree) (r_ : Rec) : Option (OTree × Int) :=
 (Option.bind (m_code_RightRec r_) fun z2 => (bif (!z2) then
 (some (t_, 1))
 else
 (Option.bind (m_tree_Place r_.key) fun z5 => (chk (decide (0 < z5.length)) (chk (decide (1 < z5.length)) (chk (inb (gt z5 0) 16) (chk (inb (gt z5 1) 16) (bif (Option.isNone (gt t_.leaves (0 + ((gt z5 0).toNat) * 16 + ((gt z5 1).toNat) * 1))) then
 (m_tree_Tree_Set_j1 r_ z5 (⟨(List.set t_.leaves (0 + ((gt z5 0).toNat) * 16 + ((gt z5 1).toNat) * 1) (some ([] : List (ByteArray × Rec)))), t_.sums⟩ : OTree))
 else
 (m_tree_Tree_Set_j1 r_ z5 t_)))))))))
def m_tree_New_b1 (f11 : OTree → Option ((Option OTree) × Int)) (i12 : Nat) (ei12 : Rec) : OTree → Option ((Option OTree) × Int) := fun o8 =>
 (Option.bind (m_tree_Tree_Set o8 ei12) fun z22 => (bif (z22.2 != 0) then
 (some (none, z22.2))
 else
 (f11 z22.1)))
def m_tree_New (list : List Rec) : Option ((Option OTree) × Int) :=
 (forI (m_tree_New_b1) (fun o8 =>
 (some ((some o8), 0))) 0 list (⟨List.replicate 256 none, []⟩ : OTree))





def m_vect_Right_b1 (f1 : Unit → Option Bool) (i2 : Nat) (ei2 : Int) : Unit → Option Bool := fun _ =>
 (bif ((decide (ei2 < 0)) || (decide (4611686018427387904 < ei2))) then
 (some false)
 else
 (f1 ()))
def m_vect_Right (v_ : List Int) : Option Bool :=
 (forI (m_vect_Right_b1) (fun _ =>
 (some ((decide (1 ≤ ((v_.length : Nat) : Int))) && (decide (((v_.length : Nat) : Int) ≤ 16))))) 0 v_ ())
def m_slices_Clone_int64_int64 (s_ : List Int) : Option (List Int) :=
 (nilc s_.isEmpty (
 (some []))
 ((chk (decide (0 + s_.length ≤ lim)) (some (([] : List Int) ++ s_)))))

def m_pull_NewCut (id : Int) (vec : List Int) (list : List Rec) : Option ((Option Opull_Cut) × Int) :=
 (Option.bind (m_tree_New list) fun z1 => (Option.bind (gcall (!(z1.2 != 0)) (m_vect_Right vec)) fun z13 => (bif ((z1.2 != 0) || (!z13)) then
 (some (none, 1))
 else
 (Option.bind (m_slices_Clone_int64_int64 vec) fun z17 => (Option.bind z1.1 fun z27 => (some ((some (⟨id, z17, z27⟩ : Opull_Cut)), 0)))))))

def m_pull_NewPull (id : Int) (own : List Rec) : Option ((Option Opull_Pull) × Int) :=
 (Option.bind (m_tree_New own) fun z1 => (bif (z1.2 != 0) then
 (some (none, z1.2))
 else
 (Option.bind (m_tree_New []) fun z12 => (Option.bind z1.1 fun z22 => (Option.bind z12.1 fun z25 => (some ((some (⟨id, z22, false, [], [], z25⟩ : Opull_Pull)), 0)))))))
def m_pull_Pull_Done (p_ : Opull_Pull) : Option Bool :=
 (some (p_.begun && (((p_.wants.length : Nat) : Int) == 0)))
def m_pull_Cut_Vec (c_ : Opull_Cut) : Option (List Int) :=
 (Option.bind (m_slices_Clone_int64_int64 c_.vec) fun z2 => (some z2))
def m_tree_at_b1 (f8 : List Int → Option ((Int × Int × Int) × Bool)) (i9 : Nat) (ei9 : Int) : List Int → Option ((Int × Int × Int) × Bool) := fun x4 =>
 (bif (((decide (1 < ((i9 : Nat) : Int))) || (decide (ei9 < 0))) || (decide (15 < ei9))) then
 (some (((gt x4 0), (gt x4 1), (gt x4 2)), false))
 else
 (chk (decide (i9 + 1 < 3)) (f8 (List.set x4 (i9 + 1) ei9))))
def m_tree_at (path : List Int) : Option ((Int × Int × Int) × Bool) :=
 (forI (m_tree_at_b1) (fun x4 =>
 (some (((gt x4 0), (gt x4 1), (gt x4 2)), true))) 0 path [((path.length : Nat) : Int), 0, 0])
def m_maps_Copy_map_string_api_Rec_map_string_api_Rec_string_api_Rec_nil_b1 (f2 : Unit → Option Unit) : Unit → Option Unit := fun _ =>
 (some ())
def m_maps_Copy_map_string_api_Rec_map_string_api_Rec_string_api_Rec_nil (dst : List (ByteArray × Rec)) : Option Unit :=
 (loopN (m_maps_Copy_map_string_api_Rec_map_string_api_Rec_string_api_Rec_nil_b1) FU ())
def m_maps_Copy_map_string_api_Rec_map_string_api_Rec_string_api_Rec_b1 : List (ByteArray × Rec) → (ByteArray × Rec) → Option (List (ByteArray × Rec)) := fun m7 en17 =>
 (some (mput en17.1 en17.2 m7))
def m_maps_Copy_map_string_api_Rec_map_string_api_Rec_string_api_Rec (dst : List (ByteArray × Rec)) (src : List (ByteArray × Rec)) : Option (List (ByteArray × Rec)) :=
 (Option.bind (fldO (m_maps_Copy_map_string_api_Rec_map_string_api_Rec_string_api_Rec_b1) dst src) (fun m26 =>
 (some m26)))
def m_tree_Tree_Recs_j21 (f26 : List (ByteArray × Rec) → Option (List Rec)) (m35 : List (ByteArray × Rec)) : Option (List Rec) :=
 (f26 m35)
def m_tree_Tree_Recs_b20 (t_ : OTree) (path : List Int) (i14 : Nat) (f26 : List (ByteArray × Rec) → Option (List Rec)) (i27 : Nat) : List (ByteArray × Rec) → Option (List Rec) := fun m23 =>
 (chk (imp (decide (0 < ((path.length : Nat) : Int))) (decide (0 < path.length))) (chk (imp ((!((decide (0 < ((path.length : Nat) : Int))) && ((gt path 0) != ((i14 : Nat) : Int)))) && (decide (1 < ((path.length : Nat) : Int)))) (decide (1 < path.length))) (bif (((decide (0 < ((path.length : Nat) : Int))) && ((gt path 0) != ((i14 : Nat) : Int))) || ((decide (1 < ((path.length : Nat) : Int))) && ((gt path 1) != ((i27 : Nat) : Int)))) then
 (m_tree_Tree_Recs_j21 f26 m23)
 else
 (optm (gt t_.leaves (0 + i14 * 16 + i27 * 1))
 ((Option.bind (m_maps_Copy_map_string_api_Rec_map_string_api_Rec_string_api_Rec_nil m23) fun z62 => (m_tree_Tree_Recs_j21 f26 m23)))
 fun es58 =>
 (Option.bind (m_maps_Copy_map_string_api_Rec_map_string_api_Rec_string_api_Rec m23 es58) fun z68 => (m_tree_Tree_Recs_j21 f26 z68))))))
def m_tree_Tree_Recs_b22 (m10 : List (ByteArray × Rec)) (f94 : List Rec → Option (List Rec)) (i95 : Nat) (ei95 : ByteArray) : List Rec → Option (List Rec) := fun out_89 =>
 (Option.bind (m_tree_own ((mget ei95 m10).getD (⟨ByteArray.empty, []⟩ : Rec))) fun z108 => (chk (decide (out_89.length + 1 ≤ lim)) (f94 (out_89 ++ [z108]))))
def m_tree_Tree_Recs_b16 (t_ : OTree) (path : List Int) (f13 : List (ByteArray × Rec) → Option (List Rec)) (i14 : Nat) : List (ByteArray × Rec) → Option (List Rec) := fun m10 =>
 (forU (m_tree_Tree_Recs_b20 t_ path i14) (fun m23 =>
 (f13 m23)) 16 0 m10)
def m_tree_Tree_Recs (t_ : OTree) (path : List Int) : Option (List Rec) :=
 (Option.bind (m_tree_at path) fun z1 => (bif (!z1.2) then
 (some [])
 else
 (forU (m_tree_Tree_Recs_b16 t_ path) (fun m10 =>
 (chk (decide (m10.length ≤ lim)) (forI (m_tree_Tree_Recs_b22 m10) (fun out_89 =>
 (some out_89)) 0 (skeys m10) []))) 16 0 ([] : List (ByteArray × Rec)))))
def m_slices_Clone_int_int (s_ : List Int) : Option (List Int) :=
 (nilc s_.isEmpty (
 (some []))
 ((chk (decide (0 + s_.length ≤ lim)) (some (([] : List Int) ++ s_)))))
def m_tree_Tree_Kids_b1 (H : OTree → List Int → Option (OTree × Int)) (path : List Int) (f18 : (List Int) × OTree → Option (OTree × (List Int))) (i19 : Nat) : (List Int) × OTree → Option (OTree × (List Int)) := fun (out_10, o15) =>
 (Option.bind (m_slices_Clone_int_int path) fun z25 => (chk (decide (z25.length + 1 ≤ lim)) (chk (decide ((z25 ++ [((i19 : Nat) : Int)]).length = path.length + 1)) (Option.bind (H o15 (z25 ++ [((i19 : Nat) : Int)])) fun z47 => (chk (decide (out_10.length + 1 ≤ lim)) (f18 ((out_10 ++ [z47.2]), z47.1)))))))
def m_tree_Tree_Kids (H : OTree → List Int → Option (OTree × Int)) (t_ : OTree) (path : List Int) : Option (OTree × (List Int)) :=
 (Option.bind (m_tree_at path) fun z1 => (bif ((!z1.2) || (decide (1 < ((path.length : Nat) : Int)))) then
 (some (t_, []))
 else
 (forU (m_tree_Tree_Kids_b1 H path) (fun (out_10, o15) =>
 (chk (decide (0 < out_10.length)) (some (o15, out_10)))) 16 0 ([], t_))))
def m_num_PutNum_b1 (f7 : (List UInt8) × Int → Option (List UInt8)) : (List UInt8) × Int → Option (List UInt8) := fun (b_1, u_6) =>
 (bif (decide (127 < u_6)) then
 (chk (u8b (ior .u8 (wu8 u_6) 128)) (chk (decide (b_1.length + 1 ≤ lim)) (f7 ((b_1 ++ [(b8 (ior .u8 (wu8 u_6) 128))]), (ishr .u64 u_6 7)))))
 else
 (chk (decide (b_1.length + 1 ≤ lim)) (some (b_1 ++ [(b8 (wu8 u_6))]))))
def m_num_PutNum (n : Int) : Option (List UInt8) :=
 (loopN (m_num_PutNum_b1) FU ([], (wu64 (max n 0))))
def m_num_PutText (s_ : ByteArray) : Option (List UInt8) :=
 (Option.bind (m_num_PutNum ((s_.size : Nat) : Int)) fun z1 => (chk (decide (z1.length + s_.size ≤ lim)) (some (z1 ++ s_.data.toList))))
def m_vers_Mark_b1 (f18 : List UInt8 → Option Int) (i19 : Nat) (ei19 : Ver) : List UInt8 → Option Int := fun b_13 =>
 (Option.bind (m_num_PutNum (ei19.dot.s)) fun z30 => (chk (decide (b_13.length + z30.length ≤ lim)) (Option.bind (m_num_PutNum (ei19.dot.n)) fun z45 => (chk (decide ((b_13 ++ z30).length + z45.length ≤ lim)) (f18 ((b_13 ++ z30) ++ z45))))))
def m_vers_Mark (key : ByteArray) (l : List Ver) : Option Int :=
 (Option.bind (m_num_PutText key) fun z1 => (forI (m_vers_Mark_b1) (fun b_13 =>
 (Option.bind (m_num_Hash b_13) fun z60 => (some z60))) 0 l z1))
def m_tree_halves (b : List UInt8) (h_ : Int) : Option (List UInt8) :=
 (Option.bind (m_num_PutNum (w64 (ishr .u64 h_ 32))) fun z1 => (chk (decide (b.length + z1.length ≤ lim)) (Option.bind (m_num_PutNum (w64 (iand .u64 h_ 4294967295))) fun z16 => (chk (decide ((b ++ z1).length + z16.length ≤ lim)) (some ((b ++ z1) ++ z16))))))
def m_tree_Tree_reckon_b4 (f31 : (List UInt8) × Bool → Option (OTree × Int)) (i32 : Nat) (ei32 : Rec) : (List UInt8) × Bool → Option (OTree × Int) := fun (b_25, some_30) =>
 (Option.bind (m_vers_Mark (ei32.key) (ei32.vers)) fun z42 => (chk (u64b z42) (Option.bind (m_tree_halves b_25 z42) fun z45 => (f31 (z45, true)))))
def m_tree_Tree_reckon_b5 (f85 : List UInt8 → Option (OTree × Int)) (i86 : Nat) (ei86 : Int) : List UInt8 → Option (OTree × Int) := fun b_80 =>
 (Option.bind (m_tree_halves b_80 ei86) fun z92 => (f85 z92))
def m_tree_Tree_reckon_j1 (b_3 : List UInt8) (some_8 : Bool) (o9 : OTree) : Option (OTree × Int) :=
 (bif (!some_8) then
 (some (o9, 0))
 else
 (Option.bind (m_num_Hash b_3) fun z103 => (chk (u64b z103) (some (o9, z103)))))
def m_tree_Tree_reckon (H : OTree → List Int → Option (OTree × Int)) (t_ : OTree) (path : List Int) : Option (OTree × Int) :=
 (bif (((path.length : Nat) : Int) == 2) then
 (Option.bind (m_tree_Tree_Recs t_ path) fun z13 => (forI (m_tree_Tree_reckon_b4) (fun (b_25, some_30) =>
 (m_tree_Tree_reckon_j1 b_25 some_30 t_)) 0 z13 ([], false)))
 else
 (Option.bind (m_tree_Tree_Recs t_ path) fun z55 => (Option.bind (m_tree_Tree_Kids H t_ path) fun z65 => (forI (m_tree_Tree_reckon_b5) (fun b_80 =>
 (m_tree_Tree_reckon_j1 b_80 (decide (0 < ((z55.length : Nat) : Int))) z65.1)) 0 z65.2 []))))
/-- a place's hash: told, or made -/
def m_hashB (H : OTree → List Int → Option (OTree × Int)) (t : OTree) (path : List Int) : Option (OTree × Int) :=
  (m_tree_at path).bind fun k => bif !k.2 then some (t, 0) else
    chk (decide (k.1.1 = (path.length : Int))) (chk (i64b k.1.2.1) (chk (i64b k.1.2.2)
    (match mget k.1 t.sums with
    | some h => some (t, h)
    | none => (m_tree_Tree_reckon H t path).bind fun z => some (⟨z.1.leaves, z.1.sums ++ [(k.1, z.2)]⟩, z.2))))
def m_hashN : Nat → OTree → List Int → Option (OTree × Int)
  | 0 => fun _ _ => none
  | n + 1 => m_hashB (m_hashN n)
def m_tree_Tree_Hash (t : OTree) (path : List Int) : Option (OTree × Int) := m_hashN 3 t path
def m_pull_Cut_Open (c_ : Opull_Cut) : Option (Opull_Cut × (List Int)) :=
 (Option.bind (m_tree_Tree_Kids m_tree_Tree_Hash c_.tree []) fun z2 => (some ((⟨c_.id, c_.vec, z2.1⟩ : Opull_Cut), z2.2)))
def m_tree_Differ_j5 (f14 : List Int → Option (List Int)) (out_21 : List Int) : Option (List Int) :=
 (f14 out_21)
def m_tree_Differ_b4 (a : List Int) (b : List Int) (f14 : List Int → Option (List Int)) (i15 : Nat) : List Int → Option (List Int) := fun out_9 =>
 (bif ((gt (List.take (List.replicate 16 0).length a ++ List.drop a.length (List.replicate 16 0)) i15) != (gt (List.take (List.replicate 16 0).length b ++ List.drop b.length (List.replicate 16 0)) i15)) then
 (chk (decide (out_9.length + 1 ≤ lim)) (m_tree_Differ_j5 f14 (out_9 ++ [((i15 : Nat) : Int)])))
 else
 (m_tree_Differ_j5 f14 out_9))
def m_tree_Differ (a : List Int) (b : List Int) : Option (List Int) :=
 (forU (m_tree_Differ_b4 a b) (fun out_9 =>
 (some out_9)) 16 0 [])

def m_pull_Pull_Begin_b1 (vec : List Int) (f56 : Opull_Pull → Option (Opull_Pull × Bool)) (i57 : Nat) (ei57 : Int) : Opull_Pull → Option (Opull_Pull × Bool) := fun o53 =>
 (chk (decide (o53.wants.length + 1 ≤ lim)) (f56 (⟨o53.id, o53.own, o53.begun, o53.vec, (o53.wants ++ [(⟨ei57, (-1)⟩ : Dpull_way)]), o53.staged⟩ : Opull_Pull)))
def m_pull_Pull_Begin (p_ : Opull_Pull) (vec : List Int) (hashes : List Int) : Option (Opull_Pull × Bool) :=
 (Option.bind (gcall (!p_.begun) (m_vect_Right vec)) fun z4 => (bif (p_.begun || (!z4)) then
 (some (p_, false))
 else
 (Option.bind (m_slices_Clone_int64_int64 vec) fun z9 => (Option.bind (m_tree_Tree_Kids m_tree_Tree_Hash p_.own []) fun z19 => (Option.bind (m_tree_Differ z19.2 hashes) fun z37 => (forI (m_pull_Pull_Begin_b1 vec) (fun o53 =>
 (some (o53, true))) 0 z37 (⟨p_.id, z19.1, true, z9, p_.wants, p_.staged⟩ : Opull_Pull)))))))

def m_pull_way_path (w_ : Dpull_way) : Option (List Int) :=
 (bif (decide (w_.a1 < 0)) then
 (some [w_.a0])
 else
 (some [w_.a0, w_.a1]))
def m_pull_Pull_Wants_b1 (f9 : List (List Int) → Option (List (List Int))) (i10 : Nat) (ei10 : Dpull_way) : List (List Int) → Option (List (List Int)) := fun out_4 =>
 (Option.bind (m_pull_way_path ei10) fun z17 => (Option.bind (m_slices_Clone_int_int z17) fun z27 => (chk (decide (out_4.length + 1 ≤ lim)) (f9 (out_4 ++ [z27])))))
def m_pull_Pull_Wants (p_ : Opull_Pull) : Option (List (List Int)) :=
 (forI (m_pull_Pull_Wants_b1) (fun out_4 =>
 (some out_4)) 0 p_.wants [])
def m_pull_Cut_Want_1 (d : Int) : Option Bool :=
 (some ((decide (d < 0)) || (decide (15 < d))))
def m_slices_IndexFunc_int_int_b1 (f1 : Unit → Option Int) (i2 : Nat) (ei2 : Int) : Unit → Option Int := fun _ =>
 (Option.bind (m_pull_Cut_Want_1 ei2) fun z8 => (bif z8 then
 (some ((i2 : Nat) : Int))
 else
 (f1 ())))
def m_slices_IndexFunc_int_int (s_ : List Int) : Option Int :=
 (forI (m_slices_IndexFunc_int_int_b1) (fun _ =>
 (some (-1))) 0 s_ ())
def m_slices_ContainsFunc_int_int (s_ : List Int) : Option Bool :=
 (Option.bind (m_slices_IndexFunc_int_int s_) fun z1 => (some (decide (0 ≤ z1))))





def m_pull_Cut_Want (c_ : Opull_Cut) (path : List Int) : Option (Opull_Cut × (List Int) × (List Rec) × Bool) :=
 (Option.bind (m_slices_ContainsFunc_int_int path) fun z1 => (bif z1 then
 (some (c_, [], [], false))
 else
 (bif (((path.length : Nat) : Int) == 1) then
 (Option.bind (m_tree_Tree_Kids m_tree_Tree_Hash c_.tree path) fun z6 => (some ((⟨c_.id, c_.vec, z6.1⟩ : Opull_Cut), z6.2, [], true)))
 else
 (bif (((path.length : Nat) : Int) == 2) then
 (Option.bind (m_tree_Tree_Recs c_.tree path) fun z22 => (some (c_, [], z22, true)))
 else
 (some (c_, [], [], false))))))

def m_pull_Pull_Tell_1 (d : Int) : Option Bool :=
 (some (decide (d < 0)))
def m_slices_IndexFunc_int_int_s1_b1 (f1 : Unit → Option Int) (i2 : Nat) (ei2 : Int) : Unit → Option Int := fun _ =>
 (Option.bind (m_pull_Pull_Tell_1 ei2) fun z8 => (bif z8 then
 (some ((i2 : Nat) : Int))
 else
 (f1 ())))
def m_slices_IndexFunc_int_int_s1 (s_ : List Int) : Option Int :=
 (forI (m_slices_IndexFunc_int_int_s1_b1) (fun _ =>
 (some (-1))) 0 s_ ())
def m_slices_ContainsFunc_int_int_s1 (s_ : List Int) : Option Bool :=
 (Option.bind (m_slices_IndexFunc_int_int_s1 s_) fun z1 => (some (decide (0 ≤ z1))))
def m_slices_Index_pull_way_pull_way_b1 (v_ : Dpull_way) (f2 : Unit → Option Int) (i3 : Nat) (ei3 : Dpull_way) : Unit → Option Int := fun _ =>
 (bif (v_ == ei3) then
 (some ((i3 : Nat) : Int))
 else
 (f2 ()))
def m_slices_Index_pull_way_pull_way (s_ : List Dpull_way) (v_ : Dpull_way) : Option Int :=
 (forI (m_slices_Index_pull_way_pull_way_b1 v_) (fun _ =>
 (some (-1))) 0 s_ ())
def m_slices_Delete_pull_way_pull_way (s_ : List Dpull_way) (i_ : Int) (j : Int) : Option (List Dpull_way) :=
 (chk (inle i_ s_.length) (chk (inle j s_.length) (chk (decide (i_.toNat ≤ j.toNat)) (bif (i_ == j) then
 (some s_)
 else
 (chk (decide ((List.take i_.toNat s_ ++ List.drop j.toNat s_).length ≤ s_.length)) (some (List.take i_.toNat s_ ++ List.drop j.toNat s_)))))))
def m_slices_Equal_int_int_b1 (s2 : List Int) (f2 : Unit → Option Bool) (i3 : Nat) (ei3 : Int) : Unit → Option Bool := fun _ =>
 (chk (decide (i3 < s2.length)) (bif (ei3 != (gt s2 i3)) then
 (some false)
 else
 (f2 ())))
def m_slices_Equal_int_int (s1 : List Int) (s2 : List Int) : Option Bool :=
 (bif (((s1.length : Nat) : Int) != ((s2.length : Nat) : Int)) then
 (some false)
 else
 (forI (m_slices_Equal_int_int_b1 s2) (fun _ =>
 (some true)) 0 s1 ()))
def m_pull_way_beneath (w_ : Dpull_way) (r_ : Rec) : Option Bool :=
 (Option.bind (m_code_RightRec r_) fun z4 => (bif z4 then
 (Option.bind (m_tree_Place r_.key) fun z10 => (Option.bind (m_pull_way_path w_) fun z20 => (Option.bind (gcall z4 (m_slices_Equal_int_int z10 z20)) fun z31 => (some z31))))
 else
 (some false)))
def m_pull_Pull_Tell_2 (r_ : Rec) (b0v0 : Int) (b0v1 : Int) : Option Bool :=
 (Option.bind (m_pull_way_beneath (⟨b0v0, b0v1⟩ : Dpull_way) r_) fun z2 => (some (!z2)))
def m_slices_IndexFunc_api_Rec_api_Rec_b1 (f_0v0 : Int) (f_0v1 : Int) (f3 : Unit → Option Int) (i4 : Nat) (ei4 : Rec) : Unit → Option Int := fun _ =>
 (Option.bind (m_pull_Pull_Tell_2 ei4 f_0v0 f_0v1) fun z13 => (bif z13 then
 (some ((i4 : Nat) : Int))
 else
 (f3 ())))
def m_slices_IndexFunc_api_Rec_api_Rec (s_ : List Rec) (f_0v0 : Int) (f_0v1 : Int) : Option Int :=
 (forI (m_slices_IndexFunc_api_Rec_api_Rec_b1 f_0v0 f_0v1) (fun _ =>
 (some (-1))) 0 s_ ())
def m_slices_ContainsFunc_api_Rec_api_Rec (s_ : List Rec) (f_0v0 : Int) (f_0v1 : Int) : Option Bool :=
 (Option.bind (m_slices_IndexFunc_api_Rec_api_Rec s_ f_0v0 f_0v1) fun z1 => (some (decide (0 ≤ z1))))
def m_pull_Pull_Tell_b1 (path : List Int) (f68 : Opull_Pull → Option (Opull_Pull × Bool)) (i69 : Nat) (ei69 : Int) : Opull_Pull → Option (Opull_Pull × Bool) := fun o65 =>
 (chk (decide (o65.wants.length + 1 ≤ lim)) (f68 (⟨o65.id, o65.own, o65.begun, o65.vec, (o65.wants ++ [(⟨(gt (List.take [(-1), (-1)].length path ++ List.drop path.length [(-1), (-1)]) 0), ei69⟩ : Dpull_way)]), o65.staged⟩ : Opull_Pull)))
def m_pull_Pull_Tell_b2 (f112 : Opull_Pull → Option (Opull_Pull × Bool)) (i113 : Nat) (ei113 : Rec) : Opull_Pull → Option (Opull_Pull × Bool) := fun o109 =>
 (Option.bind (m_tree_Tree_Set o109.staged ei113) fun z125 => (f112 (⟨o109.id, o109.own, o109.begun, o109.vec, o109.wants, z125.1⟩ : Opull_Pull)))
def m_pull_Pull_Tell (p_ : Opull_Pull) (path : List Int) (hashes : List Int) (list : List Rec) : Option (Opull_Pull × Bool) :=
 (Option.bind (gcall (!(decide (2 < ((path.length : Nat) : Int)))) (m_slices_ContainsFunc_int_int_s1 path)) fun z4 => (bif ((decide (2 < ((path.length : Nat) : Int))) || z4) then
 (some (p_, false))
 else
 (Option.bind (m_slices_Index_pull_way_pull_way p_.wants (⟨(gt (List.take [(-1), (-1)].length path ++ List.drop path.length [(-1), (-1)]) 0), (gt (List.take [(-1), (-1)].length path ++ List.drop path.length [(-1), (-1)]) 1)⟩ : Dpull_way)) fun z12 => (bif (decide (z12 < 0)) then
 (some (p_, false))
 else
 (bif (decide ((gt (List.take [(-1), (-1)].length path ++ List.drop path.length [(-1), (-1)]) 1) < 0)) then
 (chk (i64b z12) (Option.bind (m_slices_Delete_pull_way_pull_way p_.wants z12 (w64 (z12 + 1))) fun z18 => (Option.bind (m_tree_Tree_Kids m_tree_Tree_Hash p_.own [(gt (List.take [(-1), (-1)].length path ++ List.drop path.length [(-1), (-1)]) 0)]) fun z36 => (Option.bind (m_tree_Differ z36.2 hashes) fun z54 => (forI (m_pull_Pull_Tell_b1 path) (fun o65 =>
 (some (o65, true))) 0 z54 (⟨p_.id, z36.1, p_.begun, p_.vec, z18, p_.staged⟩ : Opull_Pull))))))
 else
 (Option.bind (m_slices_ContainsFunc_api_Rec_api_Rec list (gt (List.take [(-1), (-1)].length path ++ List.drop path.length [(-1), (-1)]) 0) (gt (List.take [(-1), (-1)].length path ++ List.drop path.length [(-1), (-1)]) 1)) fun z87 => (bif z87 then
 (some (p_, false))
 else
 (chk (i64b z12) (Option.bind (m_slices_Delete_pull_way_pull_way p_.wants z12 (w64 (z12 + 1))) fun z96 => (forI (m_pull_Pull_Tell_b2) (fun o109 =>
 (some (o109, true))) 0 list (⟨p_.id, p_.own, p_.begun, p_.vec, z96, p_.staged⟩ : Opull_Pull)))))))))))
def m_pull_Pull_Tell_2_l1 (r_ : Rec) (b0v0 : Int) (b0v1 : Int) : Option Bool :=
 (Option.bind (m_pull_way_beneath (⟨b0v0, b0v1⟩ : Dpull_way) r_) fun z2 => (some (!z2)))
def m_slices_IndexFunc_api_Rec_api_Rec_l1_b1 (f_0v0 : Int) (f_0v1 : Int) (f3 : Unit → Option Int) (i4 : Nat) (ei4 : Rec) : Unit → Option Int := fun _ =>
 (Option.bind (m_pull_Pull_Tell_2_l1 ei4 f_0v0 f_0v1) fun z13 => (bif z13 then
 (some ((i4 : Nat) : Int))
 else
 (f3 ())))
def m_slices_IndexFunc_api_Rec_api_Rec_l1 (s_ : List Rec) (f_0v0 : Int) (f_0v1 : Int) : Option Int :=
 (forI (m_slices_IndexFunc_api_Rec_api_Rec_l1_b1 f_0v0 f_0v1) (fun _ =>
 (some (-1))) 0 s_ ())
def m_slices_ContainsFunc_api_Rec_api_Rec_l1 (s_ : List Rec) (f_0v0 : Int) (f_0v1 : Int) : Option Bool :=
 (Option.bind (m_slices_IndexFunc_api_Rec_api_Rec_l1 s_ f_0v0 f_0v1) fun z1 => (some (decide (0 ≤ z1))))
def m_pull_Pull_Tell_l1_b1 (path : List Int) (f68 : Opull_Pull → Option (Opull_Pull × Bool)) (i69 : Nat) (ei69 : Int) : Opull_Pull → Option (Opull_Pull × Bool) := fun o65 =>
 (chk (decide (o65.wants.length + 1 ≤ lim)) (f68 (⟨o65.id, o65.own, o65.begun, o65.vec, (o65.wants ++ [(⟨(gt (List.take [(-1), (-1)].length path ++ List.drop path.length [(-1), (-1)]) 0), ei69⟩ : Dpull_way)]), o65.staged⟩ : Opull_Pull)))
def m_pull_Pull_Tell_l1_b2 (f112 : Opull_Pull → Option (Opull_Pull × Bool)) (i113 : Nat) (ei113 : Rec) : Opull_Pull → Option (Opull_Pull × Bool) := fun o109 =>
 (Option.bind (m_tree_Tree_Set o109.staged ei113) fun z125 => (f112 (⟨o109.id, o109.own, o109.begun, o109.vec, o109.wants, z125.1⟩ : Opull_Pull)))
def m_pull_Pull_Tell_l1 (p_ : Opull_Pull) (path : List Int) (hashes : List Int) (list : List Rec) : Option (Opull_Pull × Bool) :=
 (Option.bind (gcall (!(decide (2 < ((path.length : Nat) : Int)))) (m_slices_ContainsFunc_int_int_s1 path)) fun z4 => (bif ((decide (2 < ((path.length : Nat) : Int))) || z4) then
 (some (p_, false))
 else
 (Option.bind (m_slices_Index_pull_way_pull_way p_.wants (⟨(gt (List.take [(-1), (-1)].length path ++ List.drop path.length [(-1), (-1)]) 0), (gt (List.take [(-1), (-1)].length path ++ List.drop path.length [(-1), (-1)]) 1)⟩ : Dpull_way)) fun z12 => (bif (decide (z12 < 0)) then
 (some (p_, false))
 else
 (bif (decide ((gt (List.take [(-1), (-1)].length path ++ List.drop path.length [(-1), (-1)]) 1) < 0)) then
 (chk (i64b z12) (Option.bind (m_slices_Delete_pull_way_pull_way p_.wants z12 (w64 (z12 + 1))) fun z18 => (Option.bind (m_tree_Tree_Kids m_tree_Tree_Hash p_.own [(gt (List.take [(-1), (-1)].length path ++ List.drop path.length [(-1), (-1)]) 0)]) fun z36 => (Option.bind (m_tree_Differ z36.2 hashes) fun z54 => (forI (m_pull_Pull_Tell_l1_b1 path) (fun o65 =>
 (some (o65, true))) 0 z54 (⟨p_.id, z36.1, p_.begun, p_.vec, z18, p_.staged⟩ : Opull_Pull))))))
 else
 (Option.bind (m_slices_ContainsFunc_api_Rec_api_Rec_l1 list (gt (List.take [(-1), (-1)].length path ++ List.drop path.length [(-1), (-1)]) 0) (gt (List.take [(-1), (-1)].length path ++ List.drop path.length [(-1), (-1)]) 1)) fun z87 => (bif z87 then
 (some (p_, false))
 else
 (chk (i64b z12) (Option.bind (m_slices_Delete_pull_way_pull_way p_.wants z12 (w64 (z12 + 1))) fun z96 => (forI (m_pull_Pull_Tell_l1_b2) (fun o109 =>
 (some (o109, true))) 0 list (⟨p_.id, p_.own, p_.begun, p_.vec, z96, p_.staged⟩ : Opull_Pull)))))))))))
def m_firthlaw19_told_j5 (o3 : Opull_Cut) (o6 : Opull_Pull) (f9 : Opull_Cut × Opull_Pull → Option (Opull_Cut × Opull_Pull × Bool)) (z16 : List (List Int)) (at_27 : Int) : Option (Opull_Cut × Opull_Pull × Bool) :=
 (chk (inb at_27 z16.length) (Option.bind (m_pull_Cut_Want o3 (gt z16 at_27.toNat)) fun z36 => (bif (!(!z36.2.2.2)) then
 (Option.bind (m_pull_Pull_Tell_l1 o6 (gt z16 at_27.toNat) z36.2.1 z36.2.2.1) fun z62 => (bif (!z62.2) then
 (some (z36.1, z62.1, false))
 else
 (f9 (z36.1, z62.1))))
 else
 (some (z36.1, o6, false)))))
def m_firthlaw19_told_b4 (order : List Int) (f9 : Opull_Cut × Opull_Pull → Option (Opull_Cut × Opull_Pull × Bool)) (i10 : Nat) : Opull_Cut × Opull_Pull → Option (Opull_Cut × Opull_Pull × Bool) := fun (o3, o6) =>
 (Option.bind (m_pull_Pull_Wants o6) fun z16 => (bif (((z16.length : Nat) : Int) == 0) then
 (some (o3, o6, true))
 else
 (bif (decide (((i10 : Nat) : Int) < ((order.length : Nat) : Int))) then
 (chk (decide (i10 < order.length)) (chk ((wu64 ((z16.length : Nat) : Int)) != 0) (m_firthlaw19_told_j5 o3 o6 f9 z16 (w64 ((wu64 (gt order i10)).tmod (wu64 ((z16.length : Nat) : Int)))))))
 else
 (m_firthlaw19_told_j5 o3 o6 f9 z16 0))))
def m_firthlaw19_told (c_ : Opull_Cut) (p_ : Opull_Pull) (order : List Int) : Option (Opull_Cut × Opull_Pull × Bool) :=
 (forU (m_firthlaw19_told_b4 order) (fun (o3, o6) =>
 (some (o3, o6, false))) 300 0 (c_, p_))
def m_pull_Cut_Id (c_ : Opull_Cut) : Option Int :=
 (some c_.id)
def m_pull_Pull_Id (p_ : Opull_Pull) : Option Int :=
 (some p_.id)
def m_pull_Pull_Staged (p_ : Opull_Pull) : Option (List Rec) :=
 (Option.bind (m_tree_Tree_Recs p_.staged []) fun z2 => (some z2))
def m_firthref03_Same_b1 (b : List Span) (f2 : Unit → Option Bool) (i3 : Nat) (ei3 : Span) : Unit → Option Bool := fun _ =>
 (chk (decide (i3 < b.length)) (bif (ei3 != (gt b i3)) then
 (some false)
 else
 (f2 ())))
def m_firthref03_Same (a : List Span) (b : List Span) : Option Bool :=
 (bif (((a.length : Nat) : Int) != ((b.length : Nat) : Int)) then
 (some false)
 else
 (forI (m_firthref03_Same_b1 b) (fun _ =>
 (some true)) 0 a ()))
def m_firthref05_SameOne (a : Ver) (b : Ver) : Option Bool :=
 (Option.bind (gcall (((a.dot == b.dot) && (a.gone == b.gone)) && (a.val == b.val)) (m_firthref03_Same a.past b.past)) fun z18 => (some ((((a.dot == b.dot) && (a.gone == b.gone)) && (a.val == b.val)) && z18)))
def m_firthref05_Same_b1 (b : List Ver) (f2 : Unit → Option Bool) (i3 : Nat) (ei3 : Ver) : Unit → Option Bool := fun _ =>
 (chk (decide (i3 < b.length)) (Option.bind (m_firthref05_SameOne ei3 (gt b i3)) fun z16 => (bif (!z16) then
 (some false)
 else
 (f2 ()))))
def m_firthref05_Same (a : List Ver) (b : List Ver) : Option Bool :=
 (bif (((a.length : Nat) : Int) != ((b.length : Nat) : Int)) then
 (some false)
 else
 (forI (m_firthref05_Same_b1 b) (fun _ =>
 (some true)) 0 a ()))
def m_firthref06_SameRecs_b1 (b : List Rec) (f2 : Unit → Option Bool) (i3 : Nat) (ei3 : Rec) : Unit → Option Bool := fun _ =>
 (chk (decide (i3 < b.length)) (Option.bind (gcall (!(ei3.key != (gt b i3).key)) (m_firthref05_Same (ei3.vers) ((gt b i3).vers))) fun z27 => (bif ((ei3.key != (gt b i3).key) || (!z27)) then
 (some false)
 else
 (f2 ()))))
def m_firthref06_SameRecs (a : List Rec) (b : List Rec) : Option Bool :=
 (bif (((a.length : Nat) : Int) != ((b.length : Nat) : Int)) then
 (some false)
 else
 (forI (m_firthref06_SameRecs_b1 b) (fun _ =>
 (some true)) 0 a ()))
def m_pull_Pull_Vec (p_ : Opull_Pull) : Option (List Int) :=
 (Option.bind (m_slices_Clone_int64_int64 p_.vec) fun z2 => (some z2))
def m_firthref04_Same_b1 (b : List Int) (f2 : Unit → Option Bool) (i3 : Nat) (ei3 : Int) : Unit → Option Bool := fun _ =>
 (chk (decide (i3 < b.length)) (bif (ei3 != (gt b i3)) then
 (some false)
 else
 (f2 ())))
def m_firthref04_Same (a : List Int) (b : List Int) : Option Bool :=
 (bif (((a.length : Nat) : Int) != ((b.length : Nat) : Int)) then
 (some false)
 else
 (forI (m_firthref04_Same_b1 b) (fun _ =>
 (some true)) 0 a ()))
def m_firthlaw19_awake  : Option Bool :=
 (Option.bind (m_firthlaw19_k) fun z2 => (Option.bind (m_pull_NewCut 3 [1] z2) fun z13 => (Option.bind (m_pull_NewPull 4 []) fun z23 => (bif (!((((Option.isNone z13.1) || (Option.isNone z23.1)) || (z13.2 != 0)) || (z23.2 != 0))) then
 (Option.bind z23.1 fun z41 => (Option.bind z13.1 fun z44 => (Option.bind (m_pull_Pull_Done z41) fun z47 => (bif (!z47) then
 (Option.bind (m_pull_Cut_Vec z44) fun z52 => (Option.bind (m_pull_Cut_Open z44) fun z62 => (Option.bind (m_pull_Pull_Begin z41 z52 z62.2) fun z74 => (bif (!(!z74.2)) then
 (Option.bind (m_pull_Cut_Vec z62.1) fun z85 => (Option.bind (m_pull_Cut_Open z62.1) fun z95 => (Option.bind (m_pull_Pull_Begin z74.1 z85 z95.2) fun z107 => (bif (!z107.2) then
 (Option.bind (m_pull_Pull_Wants z107.1) fun z117 => (bif (((z117.length : Nat) : Int) != 1) then
 (some false)
 else
 (Option.bind (m_firthlaw19_told z95.1 z107.1 []) fun z128 => (Option.bind (gcall z128.2.2 (m_pull_Pull_Done z128.2.1)) fun z140 => (Option.bind (gcall (z128.2.2 && z140) (m_pull_Cut_Id z128.1)) fun z144 => (Option.bind (gcall ((z128.2.2 && z140) && (z144 == 3)) (m_pull_Pull_Id z128.2.1)) fun z149 => (bif (((z128.2.2 && z140) && (z144 == 3)) && (z149 == 4)) then
 (Option.bind (m_pull_Pull_Staged z128.2.1) fun z154 => (Option.bind (m_firthlaw19_k) fun z166 => (Option.bind (m_firthref06_SameRecs z154 z166) fun z176 => (bif z176 then
 (Option.bind (m_pull_Pull_Vec z128.2.1) fun z180 => (Option.bind (m_firthref04_Same z180 [1]) fun z192 => (some z192)))
 else
 (some false)))))
 else
 (some false))))))))
 else
 (some false)))))
 else
 (some false)))))
 else
 (some false)))))
 else
 (some false)))))
def m_firthref10_Own_b1 (f11 : List Ver → Option Rec) (i12 : Nat) (ei12 : Ver) : List Ver → Option Rec := fun x6 =>
 (chk (decide (0 + (ei12.past).length ≤ lim)) (chk (decide (x6.length + 1 ≤ lim)) (f11 (x6 ++ [ei12]))))
def m_firthref10_Own (r_ : Rec) : Option Rec :=
 (forI (m_firthref10_Own_b1) (fun x6 =>
 (some (⟨r_.key, x6⟩ : Rec))) 0 r_.vers [])

def m_firthlaw19_spoil (l : List Rec) : Option Unit :=
 (some ())
def m_pull_Pull_Wants_l1_b1 (f15 : List (List Int) → Option (List (List Int))) (i16 : Nat) (ei16 : Dpull_way) : List (List Int) → Option (List (List Int)) := fun out_10 =>
 (Option.bind (m_pull_way_path ei16) fun z23 => (Option.bind (m_slices_Clone_int_int z23) fun z33 => (chk (decide (out_10.length + 1 ≤ lim)) (f15 (out_10 ++ [z33])))))
def m_pull_Pull_Wants_l1 (p_ : Opull_Pull) : Option (List (List Int)) :=
 (forI (m_pull_Pull_Wants_l1_b1) (fun out_10 =>
 (some out_10)) 0 p_.wants [])
def m_firthref03_Dot (d : Dot) : Option Bool :=
 (some ((((decide (1 ≤ d.s)) && (decide (d.s ≤ 16))) && (decide (1 ≤ d.n))) && (decide (d.n ≤ 4611686018427387904))))
def m_firthref03_Right_b1 (l : List Span) (f2 : Unit → Option Bool) (i3 : Nat) (ei3 : Span) : Unit → Option Bool := fun _ =>
 (Option.bind (m_firthref03_Dot (⟨ei3.s, ei3.f⟩ : Dot)) fun z9 => (Option.bind (gcall (!(!z9)) (m_firthref03_Dot (⟨ei3.s, ei3.t⟩ : Dot))) fun z23 => (bif (((!z9) || (!z23)) || (decide (ei3.t < ei3.f))) then
 (some false)
 else
 (chk (imp (decide (0 < ((i3 : Nat) : Int))) (inb (w64 (((i3 : Nat) : Int) - 1)) l.length)) (bif ((decide (0 < ((i3 : Nat) : Int))) && ((decide (ei3.s < (gt l ((w64 (((i3 : Nat) : Int) - 1)).toNat)).s)) || ((ei3.s == (gt l ((w64 (((i3 : Nat) : Int) - 1)).toNat)).s) && (decide ((w64 (ei3.f - 1)) ≤ (gt l ((w64 (((i3 : Nat) : Int) - 1)).toNat)).t))))) then
 (some false)
 else
 (f2 ()))))))
def m_firthref03_Right (l : List Span) : Option Bool :=
 (bif (decide (1024 < ((l.length : Nat) : Int))) then
 (some false)
 else
 (forI (m_firthref03_Right_b1 l) (fun _ =>
 (some true)) 0 l ()))
def m_firthref03_Top_j6 (f3 : Int → Option Int) (n_10 : Int) : Option Int :=
 (f3 n_10)
def m_firthref03_Top_b5 (s_ : Int) (f3 : Int → Option Int) (i4 : Nat) (ei4 : Span) : Int → Option Int := fun n_1 =>
 (bif ((ei4.s == s_) && (decide (n_1 < ei4.t))) then
 (m_firthref03_Top_j6 f3 (ei4.t))
 else
 (m_firthref03_Top_j6 f3 n_1))
def m_firthref03_Top (l : List Span) (s_ : Int) : Option Int :=
 (forI (m_firthref03_Top_b5 s_) (fun n_1 =>
 (some n_1)) 0 l 0)
def m_firthref05_RightOne (v_ : Ver) : Option Bool :=
 (Option.bind (m_firthref03_Dot v_.dot) fun z2 => (Option.bind (gcall (!(!z2)) (m_firthref03_Right v_.past)) fun z7 => (Option.bind (gcall (!((!z2) || (!z7))) (m_firthref03_Top v_.past v_.dot.s)) fun z16 => (bif (((!z2) || (!z7)) || (decide (v_.dot.n ≤ z16))) then
 (some false)
 else
 (bif v_.gone then
 (some (v_.val == ByteArray.empty))
 else
 (some (decide (((v_.val.size : Nat) : Int) ≤ 256))))))))
def m_firthref03_Has_b1 (d : Dot) (f2 : Unit → Option Bool) (i3 : Nat) (ei3 : Span) : Unit → Option Bool := fun _ =>
 (bif (((ei3.s == d.s) && (decide (ei3.f ≤ d.n))) && (decide (d.n ≤ ei3.t))) then
 (some true)
 else
 (f2 ()))
def m_firthref03_Has (l : List Span) (d : Dot) : Option Bool :=
 (forI (m_firthref03_Has_b1 d) (fun _ =>
 (some false)) 0 l ())
def m_firthref05_Behind_b1 (d : Dot) (f2 : Unit → Option Bool) (i3 : Nat) (ei3 : Ver) : Unit → Option Bool := fun _ =>
 (Option.bind (m_firthref03_Has (ei3.past) d) fun z12 => (bif z12 then
 (some true)
 else
 (f2 ())))
def m_firthref05_Behind (l : List Ver) (d : Dot) : Option Bool :=
 (forI (m_firthref05_Behind_b1 d) (fun _ =>
 (some false)) 0 l ())
def m_firthref05_Less (a : Dot) (b : Dot) : Option Bool :=
 (bif (a.s != b.s) then
 (some (decide (a.s < b.s)))
 else
 (some (decide (a.n < b.n))))
def m_firthref05_Right_b1 (l : List Ver) (f2 : Unit → Option Bool) (i3 : Nat) (ei3 : Ver) : Unit → Option Bool := fun _ =>
 (Option.bind (m_firthref05_RightOne ei3) fun z12 => (Option.bind (gcall (!(!z12)) (m_firthref05_Behind l (ei3.dot))) fun z21 => (bif ((!z12) || z21) then
 (some false)
 else
 (chk (imp (decide (0 < ((i3 : Nat) : Int))) (inb (w64 (((i3 : Nat) : Int) - 1)) l.length)) (Option.bind (gcall (decide (0 < ((i3 : Nat) : Int))) (m_firthref05_Less ((gt l ((w64 (((i3 : Nat) : Int) - 1)).toNat)).dot) (ei3.dot))) fun z40 => (bif ((decide (0 < ((i3 : Nat) : Int))) && (!z40)) then
 (some false)
 else
 (f2 ())))))))
def m_firthref05_Right (l : List Ver) : Option Bool :=
 (bif (decide (512 < ((l.length : Nat) : Int))) then
 (some false)
 else
 (forI (m_firthref05_Right_b1 l) (fun _ =>
 (some true)) 0 l ()))
def m_firthref06_RightRec (r_ : Rec) : Option Bool :=
 (Option.bind (gcall ((r_.key != ByteArray.empty) && (decide (((r_.key.size : Nat) : Int) ≤ 32))) (m_firthref05_Right r_.vers)) fun z9 => (some (((r_.key != ByteArray.empty) && (decide (((r_.key.size : Nat) : Int) ≤ 32))) && z9)))
def m_firthref10_With_j11 (f8 : (List Rec) × Bool → Option (List Rec)) (out_15 : List Rec) (laid_20 : Bool) : Option (List Rec) :=
 (f8 (out_15, laid_20))
def m_firthref10_With_j13 (l : List Rec) (f8 : (List Rec) × Bool → Option (List Rec)) (i9 : Nat) (out_25 : List Rec) (laid_30 : Bool) : Option (List Rec) :=
 (chk (decide (out_25.length + 1 ≤ lim)) (m_firthref10_With_j11 f8 (out_25 ++ [(gt l i9)]) laid_30))
def m_firthref10_With_b10 (l : List Rec) (r_ : Rec) (f8 : (List Rec) × Bool → Option (List Rec)) (i9 : Nat) (ei9 : Rec) : (List Rec) × Bool → Option (List Rec) := fun (out_2, laid_7) =>
 (bif (ei9.key == r_.key) then
 (m_firthref10_With_j11 f8 out_2 laid_7)
 else
 (bif ((!laid_7) && (strLt r_.key (ei9.key))) then
 (chk (decide (out_2.length + 1 ≤ lim)) (m_firthref10_With_j13 l f8 i9 (out_2 ++ [r_]) true))
 else
 (m_firthref10_With_j13 l f8 i9 out_2 laid_7)))
def m_firthref10_With (l : List Rec) (r_ : Rec) : Option (List Rec) :=
 (forI (m_firthref10_With_b10 l r_) (fun (out_2, laid_7) =>
 (bif (!laid_7) then
 (chk (decide (out_2.length + 1 ≤ lim)) (some (out_2 ++ [r_])))
 else
 (some out_2))) 0 l ([], (((r_.vers.length : Nat) : Int) == 0)))
def m_firthref14_Held_b1 (f8 : List Rec → Option ((List Rec) × Bool)) (i9 : Nat) (ei9 : Rec) : List Rec → Option ((List Rec) × Bool) := fun out_3 =>
 (Option.bind (m_firthref06_RightRec ei9) fun z18 => (bif (!z18) then
 (some ([], false))
 else
 (Option.bind (m_firthref10_With out_3 ei9) fun z26 => (f8 z26))))
def m_firthref14_Held (l : List Rec) : Option ((List Rec) × Bool) :=
 (forI (m_firthref14_Held_b1) (fun out_3 =>
 (some (out_3, true))) 0 l [])
def m_firthref14_Get_b1 (key : ByteArray) (f1 : Unit → Option (List Ver)) (i2 : Nat) (ei2 : Rec) : Unit → Option (List Ver) := fun _ =>
 (bif (ei2.key == key) then
 (some (ei2.vers))
 else
 (f1 ()))
def m_firthref14_Get (l : List Rec) (key : ByteArray) : Option (List Ver) :=
 (forI (m_firthref14_Get_b1 key) (fun _ =>
 (some [])) 0 l ())
def m_firthlaw19_PullKeeps_b6 (z274 : (List Rec) × Bool) (f291 : Unit → Option Bool) (i292 : Nat) (ei292 : Rec) : Unit → Option Bool := fun _ =>
 (Option.bind (m_firthref14_Get z274.1 (ei292.key)) fun z302 => (Option.bind (m_firthref05_Same z302 (ei292.vers)) fun z312 => (bif (!z312) then
 (some false)
 else
 (f291 ()))))
def m_firthlaw19_PullKeeps_j3 (cut : List Rec) (o145 : Opull_Pull) (o148 : Opull_Cut) : Option Bool :=
 (Option.bind (m_pull_Pull_Staged o145) fun z243 => (Option.bind (m_firthlaw19_spoil z243) fun z255 => (Option.bind (m_pull_Pull_Staged o145) fun z262 => (Option.bind (m_firthref14_Held cut) fun z274 => (forI (m_firthlaw19_PullKeeps_b6 z274) (fun _ =>
 (Option.bind (m_pull_Pull_Done o145) fun z315 => (bif z315 then
 (Option.bind (m_pull_Cut_Vec o148) fun z319 => (Option.bind (m_firthref04_Same z319 [3, 4]) fun z331 => (bif z331 then
 (Option.bind (m_pull_Pull_Vec o145) fun z335 => (Option.bind (m_firthref04_Same z335 [3, 4]) fun z347 => (some z347)))
 else
 (some false))))
 else
 (some false)))) 0 z262 ())))))
def m_firthlaw19_PullKeeps_b5 (cut : List Rec) (f159 : Opull_Pull × Opull_Cut → Option Bool) (i160 : Nat) : Opull_Pull × Opull_Cut → Option Bool := fun (o153, o156) =>
 (Option.bind (m_pull_Pull_Wants_l1 o153) fun z166 => (bif (((z166.length : Nat) : Int) == 0) then
 (m_firthlaw19_PullKeeps_j3 cut o153 o156)
 else
 (chk (decide (0 < z166.length)) (chk (decide (0 + (gt z166 0).length ≤ lim)) (Option.bind (m_pull_Cut_Want o156 (gt z166 0)) fun z189 => (bif (!(!z189.2.2.2)) then
 (Option.bind (m_pull_Pull_Tell_l1 o153 (gt z166 0) z189.2.1 z189.2.2.1) fun z212 => (bif (!z212.2) then
 (some false)
 else
 (Option.bind (m_firthlaw19_spoil z189.2.2.1) fun z221 => (chk (decide (0 < (gt z166 0).length)) (f159 (z212.1, z189.1))))))
 else
 (some false)))))))
def m_firthlaw19_PullKeeps_b2 (f134 : List Int → Option Bool) (i135 : Nat) : List Int → Option Bool := fun x130 =>
 (f134 (List.set x130 i135 1))
def m_firthlaw19_PullKeeps_b1 (f11 : List Rec → Option Bool) (i12 : Nat) (ei12 : Rec) : List Rec → Option Bool := fun mine_6 =>
 (Option.bind (m_firthref10_Own ei12) fun z21 => (chk (decide (mine_6.length + 1 ≤ lim)) (f11 (mine_6 ++ [z21]))))
def m_firthlaw19_PullKeeps (own : List Rec) (cut : List Rec) : Option Bool :=
 (Option.bind (m_firthlaw19_awake) fun z1 => (bif (!z1) then
 (some false)
 else
 (forI (m_firthlaw19_PullKeeps_b1) (fun mine_6 =>
 (Option.bind (m_pull_NewCut 1 [3, 4] mine_6) fun z40 => (Option.bind (m_pull_NewPull 1 own) fun z50 => (bif ((((Option.isNone z40.1) || (Option.isNone z50.1)) || (z40.2 != 0)) || (z50.2 != 0)) then
 (some ((z40.2 == 1) || (z50.2 == 1)))
 else
 (Option.bind z50.1 fun z69 => (Option.bind z40.1 fun z72 => (Option.bind (m_firthlaw19_spoil mine_6) fun z80 => (Option.bind (m_pull_Cut_Vec z72) fun z87 => (chk (decide (1 < z87.length)) (Option.bind (m_pull_Cut_Open z72) fun z100 => (Option.bind (m_pull_Cut_Vec z100.1) fun z112 => (Option.bind (m_pull_Pull_Begin z69 z112 z100.2) fun z122 => (forU (m_firthlaw19_PullKeeps_b2) (fun x130 =>
 (forU (m_firthlaw19_PullKeeps_b5 cut) (fun (o153, o156) =>
 (m_firthlaw19_PullKeeps_j3 cut o153 o156)) 300 0 (z122.1, z100.1))) z100.2.length 0 z100.2))))))))))))) 0 cut [])))
end Fw
end Go.Proofs.YtiakfgdgafljnaaGreat
