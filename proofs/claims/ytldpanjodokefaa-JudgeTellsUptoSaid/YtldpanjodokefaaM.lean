/- What the functions compute, as Lean functions (printed by a program). No condition. -/
import Derived.Test.YtldpanjodokefaaE
import Derived.Test.YtldpanjodokefaaK14
import Derived.Test.YtldpanjodokefaaK13
import Derived.Test.YtldpanjodokefaaK15
import Derived.Test.YtldpanjodokefaaK17
import Derived.Test.YtldpanjodokefaaK19
import Derived.Test.YtldpanjodokefaaK20
import Derived.Test.YtldpanjodokefaaK23
import Derived.Test.YtldpanjodokefaaK27
import Derived.Test.YtldpanjodokefaaK29
import Derived.Test.YtldpanjodokefaaK32
import Derived.Test.YtldpanjodokefaaK33
import Derived.Test.YtldpanjodokefaaK34
import Derived.Test.YtldpanjodokefaaK35
namespace Go.Proofs.Ytldpanjodokefaa
namespace Fw
set_option linter.unusedVariables false
set_option linter.unusedSimpArgs false
set_option linter.unusedSectionVars false
open Go.RowKit
structure Ojudge_trial where
  list : (List Djudge_Act)
  first : (List ((Dot) × Int))
  behind : (List ((Dot) × List ((Dot) × Unit)))
  deriving Inhabited, DecidableEq
noncomputable def m_firthlaw23_dot (s_ : Int) (n : Int) : Option Dot :=
 (some (⟨s_, n⟩ : Dot))
noncomputable def m_maps_Copy_judge_dots_judge_dots_api_Dot_bool_b1 : List ((Dot) × Unit) → ((Dot) × Unit) → Option ((List ((Dot) × Unit)) ⊕ Option (List ((Dot) × Unit))) := fun m7 en17 =>
 (some (.inl (sput kl27 en17.1 m7)))
noncomputable def m_maps_Copy_judge_dots_judge_dots_api_Dot_bool (dst : List ((Dot) × Unit)) (src : List ((Dot) × Unit)) : Option (List ((Dot) × Unit)) :=
 (anyX (m_maps_Copy_judge_dots_judge_dots_api_Dot_bool_b1) (fun m7 =>
 (some m7)) src dst)
noncomputable def m_judge_dots_join (d : List ((Dot) × Unit)) (x_ : List ((Dot) × Unit)) : Option ((List ((Dot) × Unit)) × Bool) :=
 (Option.bind (m_maps_Copy_judge_dots_judge_dots_api_Dot_bool d x_) fun z1 => (some (z1, (decide (((d.length : Nat) : Int) < ((z1.length : Nat) : Int))))))
noncomputable def m_judge_trial_put (t_ : Ojudge_trial) (into : List ((Dot) × Unit)) (d : Dot) : Option (List ((Dot) × Unit)) :=
 (Option.bind (m_judge_dots_join (sput kl27 d into) ((mget d t_.behind).getD [])) fun z11 => (some z11.1))
noncomputable def m_judge_trial_saw_j17 (f12 : List ((Dot) × Unit) → Option (List ((Dot) × Unit))) (m21 : List ((Dot) × Unit)) : Option (List ((Dot) × Unit)) :=
 (f12 m21)
noncomputable def m_judge_trial_saw_b21 (t_ : Ojudge_trial) (i_ : Int) (f12 : List ((Dot) × Unit) → Option (List ((Dot) × Unit))) (i13 : Nat) (f68 : Int × (List ((Dot) × Unit)) → Option (List ((Dot) × Unit))) : Int × (List ((Dot) × Unit)) → Option (List ((Dot) × Unit)) := fun (k_63, m65) =>
 (bif ((gt (List.take i_.toNat t_.list) i13).read && (decide (k_63 < ((((gt (List.take i_.toNat t_.list) i13).reads).length : Nat) : Int)))) then
 (chk (inb k_63 (((gt (List.take i_.toNat t_.list) i13).reads).length)) (Option.bind (m_judge_trial_put t_ m65 (gt ((gt (List.take i_.toNat t_.list) i13).reads) k_63.toNat)) fun z79 => (f68 ((w64 (k_63 + 1)), z79))))
 else
 (m_judge_trial_saw_j17 f12 m65))
noncomputable def m_judge_trial_saw_j20 (t_ : Ojudge_trial) (i_ : Int) (f12 : List ((Dot) × Unit) → Option (List ((Dot) × Unit))) (i13 : Nat) (m45 : List ((Dot) × Unit)) : Option (List ((Dot) × Unit)) :=
 (loopN (m_judge_trial_saw_b21 t_ i_ f12 i13) FU (0, m45))
noncomputable def m_judge_trial_saw_b16 (t_ : Ojudge_trial) (i_ : Int) (f12 : List ((Dot) × Unit) → Option (List ((Dot) × Unit))) (i13 : Nat) (ei13 : Djudge_Act) : List ((Dot) × Unit) → Option (List ((Dot) × Unit)) := fun m9 =>
 (chk (inb i_ t_.list.length) (bif ((ei13.sess != (gt t_.list i_.toNat).sess) || (!ei13.oK)) then
 (m_judge_trial_saw_j17 f12 m9)
 else
 (bif ((!ei13.read) && (decide (0 < ei13.dot.n))) then
 (Option.bind (m_judge_trial_put t_ m9 (ei13.dot)) fun z53 => (m_judge_trial_saw_j20 t_ i_ f12 i13 z53))
 else
 (m_judge_trial_saw_j20 t_ i_ f12 i13 m9))))
noncomputable def m_judge_trial_saw (t_ : Ojudge_trial) (i_ : Int) : Option (List ((Dot) × Unit)) :=
 (chk (inle i_ t_.list.length) (forI (m_judge_trial_saw_b16 t_ i_) (fun m9 =>
 (some m9)) 0 (List.take i_.toNat t_.list) ([] : List ((Dot) × Unit))))
noncomputable def m_judge_trial_put_l1 (t_ : Ojudge_trial) (into : List ((Dot) × Unit)) (d : Dot) : Option (List ((Dot) × Unit)) :=
 (Option.bind (m_judge_dots_join (sput kl27 d into) ((mget d t_.behind).getD [])) fun z15 => (some z15.1))
noncomputable def m_judge_trial_saw_l1_j17 (f15 : List ((Dot) × Unit) → Option (List ((Dot) × Unit))) (m24 : List ((Dot) × Unit)) : Option (List ((Dot) × Unit)) :=
 (f15 m24)
noncomputable def m_judge_trial_saw_l1_b21 (t_ : Ojudge_trial) (i_ : Int) (f15 : List ((Dot) × Unit) → Option (List ((Dot) × Unit))) (i16 : Nat) (f68 : Int × (List ((Dot) × Unit)) → Option (List ((Dot) × Unit))) : Int × (List ((Dot) × Unit)) → Option (List ((Dot) × Unit)) := fun (k_63, m65) =>
 (bif ((gt (List.take i_.toNat t_.list) i16).read && (decide (k_63 < ((((gt (List.take i_.toNat t_.list) i16).reads).length : Nat) : Int)))) then
 (chk (inb k_63 (((gt (List.take i_.toNat t_.list) i16).reads).length)) (Option.bind (m_judge_trial_put_l1 t_ m65 (gt ((gt (List.take i_.toNat t_.list) i16).reads) k_63.toNat)) fun z79 => (f68 ((w64 (k_63 + 1)), z79))))
 else
 (m_judge_trial_saw_l1_j17 f15 m65))
noncomputable def m_judge_trial_saw_l1_j20 (t_ : Ojudge_trial) (i_ : Int) (f15 : List ((Dot) × Unit) → Option (List ((Dot) × Unit))) (i16 : Nat) (m45 : List ((Dot) × Unit)) : Option (List ((Dot) × Unit)) :=
 (loopN (m_judge_trial_saw_l1_b21 t_ i_ f15 i16) FU (0, m45))
noncomputable def m_judge_trial_saw_l1_b16 (t_ : Ojudge_trial) (i_ : Int) (f15 : List ((Dot) × Unit) → Option (List ((Dot) × Unit))) (i16 : Nat) (ei16 : Djudge_Act) : List ((Dot) × Unit) → Option (List ((Dot) × Unit)) := fun m12 =>
 (chk (inb i_ t_.list.length) (bif ((ei16.sess != (gt t_.list i_.toNat).sess) || (!ei16.oK)) then
 (m_judge_trial_saw_l1_j17 f15 m12)
 else
 (bif ((!ei16.read) && (decide (0 < ei16.dot.n))) then
 (Option.bind (m_judge_trial_put_l1 t_ m12 (ei16.dot)) fun z53 => (m_judge_trial_saw_l1_j20 t_ i_ f15 i16 z53))
 else
 (m_judge_trial_saw_l1_j20 t_ i_ f15 i16 m12))))
noncomputable def m_judge_trial_saw_l1 (t_ : Ojudge_trial) (i_ : Int) : Option (List ((Dot) × Unit)) :=
 (chk (inle i_ t_.list.length) (forI (m_judge_trial_saw_l1_b16 t_ i_) (fun m12 =>
 (some m12)) 0 (List.take i_.toNat t_.list) ([] : List ((Dot) × Unit))))
noncomputable def m_judge_try_l0_j5 (f14 : (List ((Dot) × List ((Dot) × Unit))) × (List ((Dot) × Int)) → Option Ojudge_trial) (b21 : List ((Dot) × List ((Dot) × Unit))) (m24 : List ((Dot) × Int)) : Option Ojudge_trial :=
 (f14 (b21, m24))
noncomputable def m_judge_try_l0_b9 (list : List Djudge_Act) (m11 : List ((Dot) × Int)) : Bool × (List ((Dot) × List ((Dot) × Unit))) → ((Dot) × Int) → Option ((Bool × (List ((Dot) × List ((Dot) × Unit)))) ⊕ Option Ojudge_trial) := fun (grown_71, b74) en84 =>
 (chk ((mget en84.1 b74).isSome) (Option.bind (m_judge_trial_saw_l1 (⟨list, m11, b74⟩ : Ojudge_trial) en84.2) fun z98 => (Option.bind (m_judge_dots_join ((mget en84.1 b74).getD []) z98) fun z120 => (bif z120.2 then
 (some (.inl (true, (mput en84.1 z120.1 b74))))
 else
 (some (.inl (grown_71, (mput en84.1 z120.1 b74))))))))
noncomputable def m_judge_try_l0_b8 (list : List Djudge_Act) (m11 : List ((Dot) × Int)) (f60 : Bool × (List ((Dot) × List ((Dot) × Unit))) → Option Ojudge_trial) : Bool × (List ((Dot) × List ((Dot) × Unit))) → Option Ojudge_trial := fun (grown_56, b57) =>
 (bif grown_56 then
 (anyX (m_judge_try_l0_b9 list m11) (fun (grown_71, b74) =>
 (f60 (grown_71, b74))) m11 (false, b57))
 else
 (some (⟨list, m11, b57⟩ : Ojudge_trial)))
noncomputable def m_judge_try_l0_b4 (f14 : (List ((Dot) × List ((Dot) × Unit))) × (List ((Dot) × Int)) → Option Ojudge_trial) (i15 : Nat) (ei15 : Djudge_Act) : (List ((Dot) × List ((Dot) × Unit))) × (List ((Dot) × Int)) → Option Ojudge_trial := fun (b8, m11) =>
 (bif (((!ei15.read) && (decide (0 < ei15.dot.n))) && (!((mget (ei15.dot) m11).isSome))) then
 (chk (!((mget (ei15.dot) b8).isSome)) (m_judge_try_l0_j5 f14 (mput (ei15.dot) ([] : List ((Dot) × Unit)) b8) (mput (ei15.dot) ((i15 : Nat) : Int) m11)))
 else
 (m_judge_try_l0_j5 f14 b8 m11))
noncomputable def m_judge_try_l0 (list : List Djudge_Act) : Option Ojudge_trial :=
 (forI (m_judge_try_l0_b4) (fun (b8, m11) =>
 (loopN (m_judge_try_l0_b8 list m11) FU (true, b8))) 0 list (([] : List ((Dot) × List ((Dot) × Unit))), ([] : List ((Dot) × Int))))
noncomputable def m_judge_trial_writing (t_ : Ojudge_trial) (i_ : Int) : Option Int :=
 (chk (inb i_ t_.list.length) (bif ((decide (0 < (gt t_.list i_.toNat).dot.n)) && (((mget ((gt t_.list i_.toNat).dot) t_.first).getD 0) != i_)) then
 (some 1)
 else
 (some 0)))
noncomputable def m_judge_trial_writing_l0 (t_ : Ojudge_trial) (i_ : Int) : Option Int :=
 (chk (inb i_ t_.list.length) (bif ((decide (0 < (gt t_.list i_.toNat).dot.n)) && (((mget ((gt t_.list i_.toNat).dot) t_.first).getD 0) != i_)) then
 (some 1)
 else
 (some 0)))
noncomputable def m_vect_Covers (v_ : List Int) (d : Dot) : Option Bool :=
 (chk (imp (((decide (1 ≤ d.s)) && (decide (d.s ≤ ((v_.length : Nat) : Int)))) && (decide (1 ≤ d.n))) (inb (w64 (d.s - 1)) v_.length)) (some ((((decide (1 ≤ d.s)) && (decide (d.s ≤ ((v_.length : Nat) : Int)))) && (decide (1 ≤ d.n))) && (decide (d.n ≤ (gt v_ ((w64 (d.s - 1)).toNat)))))))
noncomputable def m_judge_covers_b1 (v_ : List Int) : Unit → ((Dot) × Unit) → Option (Unit ⊕ Option Bool) := fun () en14 =>
 (Option.bind (m_vect_Covers v_ en14.1) fun z25 => (bif (!z25) then
 (some (.inr (some false)))
 else
 (some (.inl ()))))
noncomputable def m_judge_covers (v_ : List Int) (l : List ((Dot) × Unit)) : Option Bool :=
 (anyX (m_judge_covers_b1 v_) (fun _ =>
 (some true)) l ())
noncomputable def m_judge_trial_greatest_b2 (m18 : List ((Dot) × Unit)) : List ((Dot) × Unit) → ((Dot) × Unit) → Option ((List ((Dot) × Unit)) ⊕ Option (List ((Dot) × Unit))) := fun m46 en56 =>
 (bif (!((mget en56.1 m18).isSome)) then
 (some (.inl (sput kl27 en56.1 m46)))
 else
 (some (.inl m46)))
noncomputable def m_judge_trial_greatest_b1 (t_ : Ojudge_trial) (key : ByteArray) : (List ((Dot) × Unit)) × (List ((Dot) × Unit)) → ((Dot) × Unit) → Option (((List ((Dot) × Unit)) × (List ((Dot) × Unit))) ⊕ Option (List ((Dot) × Unit))) := fun (m18, m21) en31 =>
 (chk (imp ((mget en31.1 t_.first).isSome) (inb ((mget en31.1 t_.first).getD 0) t_.list.length)) (bif (((mget en31.1 t_.first).isSome) && ((gt t_.list (((mget en31.1 t_.first).getD 0).toNat)).key == key)) then
 (Option.bind (m_judge_dots_join m18 ((mget en31.1 t_.behind).getD [])) fun z102 => (some (.inl (z102.1, (sput kl27 en31.1 m21)))))
 else
 (some (.inl (m18, m21)))))
noncomputable def m_judge_trial_greatest (t_ : Ojudge_trial) (h_ : List ((Dot) × Unit)) (key : ByteArray) : Option (List ((Dot) × Unit)) :=
 (anyX (m_judge_trial_greatest_b1 t_ key) (fun (m18, m21) =>
 (anyX (m_judge_trial_greatest_b2 m18) (fun m46 =>
 (some m46)) m21 ([] : List ((Dot) × Unit)))) h_ (([] : List ((Dot) × Unit)), ([] : List ((Dot) × Unit))))
noncomputable def m_judge_trial_greatest_l1_b2 (m18 : List ((Dot) × Unit)) : List ((Dot) × Unit) → ((Dot) × Unit) → Option ((List ((Dot) × Unit)) ⊕ Option (List ((Dot) × Unit))) := fun m46 en56 =>
 (bif (!((mget en56.1 m18).isSome)) then
 (some (.inl (sput kl27 en56.1 m46)))
 else
 (some (.inl m46)))
noncomputable def m_judge_trial_greatest_l1_b1 (t_ : Ojudge_trial) (key : ByteArray) : (List ((Dot) × Unit)) × (List ((Dot) × Unit)) → ((Dot) × Unit) → Option (((List ((Dot) × Unit)) × (List ((Dot) × Unit))) ⊕ Option (List ((Dot) × Unit))) := fun (m18, m21) en31 =>
 (chk (imp ((mget en31.1 t_.first).isSome) (inb ((mget en31.1 t_.first).getD 0) t_.list.length)) (bif (((mget en31.1 t_.first).isSome) && ((gt t_.list (((mget en31.1 t_.first).getD 0).toNat)).key == key)) then
 (Option.bind (m_judge_dots_join m18 ((mget en31.1 t_.behind).getD [])) fun z106 => (some (.inl (z106.1, (sput kl27 en31.1 m21)))))
 else
 (some (.inl (m18, m21)))))
noncomputable def m_judge_trial_greatest_l1 (t_ : Ojudge_trial) (h_ : List ((Dot) × Unit)) (key : ByteArray) : Option (List ((Dot) × Unit)) :=
 (anyX (m_judge_trial_greatest_l1_b1 t_ key) (fun (m18, m21) =>
 (anyX (m_judge_trial_greatest_l1_b2 m18) (fun m46 =>
 (some m46)) m21 ([] : List ((Dot) × Unit)))) h_ (([] : List ((Dot) × Unit)), ([] : List ((Dot) × Unit))))
noncomputable def m_maps_Equal_judge_dots_judge_dots_api_Dot_bool_b1 (m2 : List ((Dot) × Unit)) : Unit → ((Dot) × Unit) → Option (Unit ⊕ Option Bool) := fun () en15 =>
 (bif ((!((mget en15.1 m2).isSome)) || (true != ((mget en15.1 m2).isSome))) then
 (some (.inr (some false)))
 else
 (some (.inl ())))
noncomputable def m_maps_Equal_judge_dots_judge_dots_api_Dot_bool (m1 : List ((Dot) × Unit)) (m2 : List ((Dot) × Unit)) : Option Bool :=
 (bif (((m1.length : Nat) : Int) != ((m2.length : Nat) : Int)) then
 (some false)
 else
 (anyX (m_maps_Equal_judge_dots_judge_dots_api_Dot_bool_b1 m2) (fun _ =>
 (some true)) m1 ()))
noncomputable def m_judge_trial_reading_l0_b4 (t_ : Ojudge_trial) : List ((Dot) × Unit) → ((Dot) × Unit) → Option ((List ((Dot) × Unit)) ⊕ Option Int) := fun m107 en117 =>
 (Option.bind (m_judge_trial_put_l1 t_ m107 en117.1) fun z140 => (some (.inl z140)))
noncomputable def m_judge_trial_reading_l0_b3 (t_ : Ojudge_trial) (i_ : Int) : List ((Dot) × Unit) → ((Dot) × Int) → Option ((List ((Dot) × Unit)) ⊕ Option Int) := fun m77 en87 =>
 (Option.bind (m_vect_Covers ((gt t_.list i_.toNat).seen) en87.1) fun z151 => (bif z151 then
 (Option.bind (m_judge_covers ((gt t_.list i_.toNat).seen) ((mget en87.1 t_.behind).getD [])) fun z159 => (bif (!z159) then
 (some (.inr (some 4)))
 else
 (Option.bind (m_judge_trial_put_l1 t_ m77 en87.1) fun z162 => (some (.inl z162)))))
 else
 (some (.inl m77))))
noncomputable def m_judge_trial_reading_l0_b2 (t_ : Ojudge_trial) (i_ : Int) : Unit → ((Dot) × Unit) → Option (Unit ⊕ Option Int) := fun () en47 =>
 (chk (inb ((mget en47.1 t_.first).getD 0) t_.list.length) (bif ((gt t_.list (((mget en47.1 t_.first).getD 0).toNat)).key != (gt t_.list i_.toNat).key) then
 (some (.inr (some 3)))
 else
 (some (.inl ()))))
noncomputable def m_judge_trial_reading_l0_b1 (t_ : Ojudge_trial) (f19 : List ((Dot) × Unit) → Option Int) (i20 : Nat) (ei20 : Dot) : List ((Dot) × Unit) → Option Int := fun m16 =>
 (bif (!((mget ei20 t_.first).isSome)) then
 (some 2)
 else
 (f19 (sput kl27 ei20 m16)))
noncomputable def m_judge_trial_reading_l0 (t_ : Ojudge_trial) (i_ : Int) : Option Int :=
 (chk (inb i_ t_.list.length) (forI (m_judge_trial_reading_l0_b1 t_) (fun m16 =>
 (anyX (m_judge_trial_reading_l0_b2 t_ i_) (fun _ =>
 (Option.bind (m_judge_trial_saw_l1 t_ i_) fun z56 => (anyX (m_judge_trial_reading_l0_b3 t_ i_) (fun m77 =>
 (Option.bind (m_judge_covers ((gt t_.list i_.toNat).seen) z56) fun z96 => (bif (!z96) then
 (some 5)
 else
 (anyX (m_judge_trial_reading_l0_b4 t_) (fun m107 =>
 (Option.bind (m_judge_trial_greatest_l1 t_ m107 ((gt t_.list i_.toNat).key)) fun z126 => (Option.bind (m_maps_Equal_judge_dots_judge_dots_api_Dot_bool m16 z126) fun z135 => (bif (!z135) then
 (some 6)
 else
 (some 0))))) m16 m77)))) t_.first z56))) m16 ())) 0 ((gt t_.list i_.toNat).reads) ([] : List ((Dot) × Unit))))
noncomputable def m_judge_Judge_l0_j5 (f12 : Unit → Option (Int × Int)) (i13 : Nat) (v_27 : Int) : Option (Int × Int) :=
 (bif (v_27 != 0) then
 (some (((i13 : Nat) : Int), v_27))
 else
 (f12 ()))
noncomputable def m_judge_Judge_l0_b4 (z1 : Ojudge_trial) (f12 : Unit → Option (Int × Int)) (i13 : Nat) (ei13 : Djudge_Act) : Unit → Option (Int × Int) := fun _ =>
 (bif (!ei13.read) then
 (Option.bind (m_judge_trial_writing_l0 z1 ((i13 : Nat) : Int)) fun z30 => (m_judge_Judge_l0_j5 f12 i13 z30))
 else
 (bif (ei13.oK) then
 (Option.bind (m_judge_trial_reading_l0 z1 ((i13 : Nat) : Int)) fun z38 => (m_judge_Judge_l0_j5 f12 i13 z38))
 else
 (m_judge_Judge_l0_j5 f12 i13 0)))
noncomputable def m_judge_Judge_l0 (list : List Djudge_Act) : Option (Int × Int) :=
 (Option.bind (m_judge_try_l0 list) fun z1 => (forI (m_judge_Judge_l0_b4 z1) (fun _ =>
 (some ((-1), 0))) 0 list ()))
noncomputable def m_cmp_isNaN_int (x_ : Int) : Option Bool :=
 (some (x_ != x_))
noncomputable def m_cmp_Compare_int (x_ : Int) (y : Int) : Option Int :=
 (Option.bind (m_cmp_isNaN_int x_) fun z1 => (Option.bind (m_cmp_isNaN_int y) fun z3 => (bif z1 then
 (bif z3 then
 (some 0)
 else
 (some (-1)))
 else
 (bif z3 then
 (some 1)
 else
 (bif (decide (x_ < y)) then
 (some (-1))
 else
 (bif (decide (y < x_)) then
 (some 1)
 else
 (some 0)))))))
noncomputable def m_cmp_isNaN_int64 (x_ : Int) : Option Bool :=
 (some (x_ != x_))
noncomputable def m_cmp_Compare_int64 (x_ : Int) (y : Int) : Option Int :=
 (Option.bind (m_cmp_isNaN_int64 x_) fun z1 => (Option.bind (m_cmp_isNaN_int64 y) fun z3 => (bif z1 then
 (bif z3 then
 (some 0)
 else
 (some (-1)))
 else
 (bif z3 then
 (some 1)
 else
 (bif (decide (x_ < y)) then
 (some (-1))
 else
 (bif (decide (y < x_)) then
 (some 1)
 else
 (some 0)))))))
noncomputable def m_cmp_Or_int_b1 (f1 : Unit → Option Int) (i2 : Nat) (ei2 : Int) : Unit → Option Int := fun _ =>
 (bif (ei2 != 0) then
 (some ei2)
 else
 (f1 ()))
noncomputable def m_cmp_Or_int (vals : List Int) : Option Int :=
 (forI (m_cmp_Or_int_b1) (fun _ =>
 (some 0)) 0 vals ())
noncomputable def m_judge_dots_sorted_1 (a : Dot) (b : Dot) : Option Int :=
 (Option.bind (m_cmp_Compare_int a.s b.s) fun z4 => (Option.bind (m_cmp_Compare_int64 a.n b.n) fun z6 => (chk (i64b z4) (chk (i64b z6) (Option.bind (m_cmp_Or_int [z4, z6]) fun z12 => (some z12))))))





noncomputable def m_judge_dots_sorted (d : List (Dot × Unit)) : Option (List Dot) := chk (decide (d.length ≤ lim)) (anyP (fun ks => m_sort0 (fun a b => m_judge_dots_sorted_1 a b) ks) (d.map (·.1)))
noncomputable def m_judge_Behind_l0 (list : List Djudge_Act) (d : Dot) : Option (List Dot) :=
 (Option.bind (m_judge_try_l0 list) fun z3 => (Option.bind (m_judge_dots_sorted ((mget d z3.behind).getD [])) fun z18 => (some z18)))
noncomputable def m_firthref23_Same_b1 (b : List Dot) (f2 : Unit → Option Bool) (i3 : Nat) (ei3 : Dot) : Unit → Option Bool := fun _ =>
 (chk (decide (i3 < b.length)) (bif (ei3 != (gt b i3)) then
 (some false)
 else
 (f2 ())))
noncomputable def m_firthref23_Same (a : List Dot) (b : List Dot) : Option Bool :=
 (bif (((a.length : Nat) : Int) != ((b.length : Nat) : Int)) then
 (some false)
 else
 (forI (m_firthref23_Same_b1 b) (fun _ =>
 (some true)) 0 a ()))
noncomputable def m_firthlaw23_awake  : Option Bool :=
 (Option.bind (m_firthlaw23_dot 1 1) fun z1 => (Option.bind (m_firthlaw23_dot 1 2) fun z3 => (Option.bind (m_firthlaw23_dot 1 2) fun z5 => (Option.bind (m_firthlaw23_dot 2 1) fun z9 => (chk (i64b z5.s) (chk (i64b z5.n) (chk (i64b z1.s) (chk (i64b z1.n) (chk (i64b z3.s) (chk (i64b z3.n) (chk (i64b z9.s) (chk (i64b z9.n) (Option.bind (m_judge_Judge_l0 [(⟨false, 1, (⟨#[107]⟩ : ByteArray), (⟨z1.s, z1.n⟩ : Dot), true, [], []⟩ : Djudge_Act), (⟨false, 1, (⟨#[107]⟩ : ByteArray), (⟨z3.s, z3.n⟩ : Dot), true, [], []⟩ : Djudge_Act), (⟨true, 3, (⟨#[107]⟩ : ByteArray), (⟨0, 0⟩ : Dot), true, [z5], [2, 0]⟩ : Djudge_Act), (⟨false, 3, (⟨#[107]⟩ : ByteArray), (⟨z9.s, z9.n⟩ : Dot), true, [], []⟩ : Djudge_Act)]) fun z33 => (Option.bind (m_firthlaw23_dot 2 1) fun z41 => (chk (i64b z41.s) (chk (i64b z41.n) (Option.bind (m_judge_Behind_l0 [(⟨false, 1, (⟨#[107]⟩ : ByteArray), (⟨z1.s, z1.n⟩ : Dot), true, [], []⟩ : Djudge_Act), (⟨false, 1, (⟨#[107]⟩ : ByteArray), (⟨z3.s, z3.n⟩ : Dot), true, [], []⟩ : Djudge_Act), (⟨true, 3, (⟨#[107]⟩ : ByteArray), (⟨0, 0⟩ : Dot), true, [z5], [2, 0]⟩ : Djudge_Act), (⟨false, 3, (⟨#[107]⟩ : ByteArray), (⟨z9.s, z9.n⟩ : Dot), true, [], []⟩ : Djudge_Act)] z41) fun z45 => (Option.bind (m_firthlaw23_dot 1 1) fun z55 => (chk (i64b z55.s) (chk (i64b z55.n) (Option.bind (m_judge_Judge_l0 (List.set [(⟨false, 1, (⟨#[107]⟩ : ByteArray), (⟨z1.s, z1.n⟩ : Dot), true, [], []⟩ : Djudge_Act), (⟨false, 1, (⟨#[107]⟩ : ByteArray), (⟨z3.s, z3.n⟩ : Dot), true, [], []⟩ : Djudge_Act), (⟨true, 3, (⟨#[107]⟩ : ByteArray), (⟨0, 0⟩ : Dot), true, [z5], [2, 0]⟩ : Djudge_Act), (⟨false, 3, (⟨#[107]⟩ : ByteArray), (⟨z9.s, z9.n⟩ : Dot), true, [], []⟩ : Djudge_Act)] 2 (⟨(gt [(⟨false, 1, (⟨#[107]⟩ : ByteArray), (⟨z1.s, z1.n⟩ : Dot), true, [], []⟩ : Djudge_Act), (⟨false, 1, (⟨#[107]⟩ : ByteArray), (⟨z3.s, z3.n⟩ : Dot), true, [], []⟩ : Djudge_Act), (⟨true, 3, (⟨#[107]⟩ : ByteArray), (⟨0, 0⟩ : Dot), true, [z5], [2, 0]⟩ : Djudge_Act), (⟨false, 3, (⟨#[107]⟩ : ByteArray), (⟨z9.s, z9.n⟩ : Dot), true, [], []⟩ : Djudge_Act)] 2).read, (gt [(⟨false, 1, (⟨#[107]⟩ : ByteArray), (⟨z1.s, z1.n⟩ : Dot), true, [], []⟩ : Djudge_Act), (⟨false, 1, (⟨#[107]⟩ : ByteArray), (⟨z3.s, z3.n⟩ : Dot), true, [], []⟩ : Djudge_Act), (⟨true, 3, (⟨#[107]⟩ : ByteArray), (⟨0, 0⟩ : Dot), true, [z5], [2, 0]⟩ : Djudge_Act), (⟨false, 3, (⟨#[107]⟩ : ByteArray), (⟨z9.s, z9.n⟩ : Dot), true, [], []⟩ : Djudge_Act)] 2).sess, (gt [(⟨false, 1, (⟨#[107]⟩ : ByteArray), (⟨z1.s, z1.n⟩ : Dot), true, [], []⟩ : Djudge_Act), (⟨false, 1, (⟨#[107]⟩ : ByteArray), (⟨z3.s, z3.n⟩ : Dot), true, [], []⟩ : Djudge_Act), (⟨true, 3, (⟨#[107]⟩ : ByteArray), (⟨0, 0⟩ : Dot), true, [z5], [2, 0]⟩ : Djudge_Act), (⟨false, 3, (⟨#[107]⟩ : ByteArray), (⟨z9.s, z9.n⟩ : Dot), true, [], []⟩ : Djudge_Act)] 2).key, (⟨(gt [(⟨false, 1, (⟨#[107]⟩ : ByteArray), (⟨z1.s, z1.n⟩ : Dot), true, [], []⟩ : Djudge_Act), (⟨false, 1, (⟨#[107]⟩ : ByteArray), (⟨z3.s, z3.n⟩ : Dot), true, [], []⟩ : Djudge_Act), (⟨true, 3, (⟨#[107]⟩ : ByteArray), (⟨0, 0⟩ : Dot), true, [z5], [2, 0]⟩ : Djudge_Act), (⟨false, 3, (⟨#[107]⟩ : ByteArray), (⟨z9.s, z9.n⟩ : Dot), true, [], []⟩ : Djudge_Act)] 2).dot.s, (gt [(⟨false, 1, (⟨#[107]⟩ : ByteArray), (⟨z1.s, z1.n⟩ : Dot), true, [], []⟩ : Djudge_Act), (⟨false, 1, (⟨#[107]⟩ : ByteArray), (⟨z3.s, z3.n⟩ : Dot), true, [], []⟩ : Djudge_Act), (⟨true, 3, (⟨#[107]⟩ : ByteArray), (⟨0, 0⟩ : Dot), true, [z5], [2, 0]⟩ : Djudge_Act), (⟨false, 3, (⟨#[107]⟩ : ByteArray), (⟨z9.s, z9.n⟩ : Dot), true, [], []⟩ : Djudge_Act)] 2).dot.n⟩ : Dot), (gt [(⟨false, 1, (⟨#[107]⟩ : ByteArray), (⟨z1.s, z1.n⟩ : Dot), true, [], []⟩ : Djudge_Act), (⟨false, 1, (⟨#[107]⟩ : ByteArray), (⟨z3.s, z3.n⟩ : Dot), true, [], []⟩ : Djudge_Act), (⟨true, 3, (⟨#[107]⟩ : ByteArray), (⟨0, 0⟩ : Dot), true, [z5], [2, 0]⟩ : Djudge_Act), (⟨false, 3, (⟨#[107]⟩ : ByteArray), (⟨z9.s, z9.n⟩ : Dot), true, [], []⟩ : Djudge_Act)] 2).oK, [z55], (gt [(⟨false, 1, (⟨#[107]⟩ : ByteArray), (⟨z1.s, z1.n⟩ : Dot), true, [], []⟩ : Djudge_Act), (⟨false, 1, (⟨#[107]⟩ : ByteArray), (⟨z3.s, z3.n⟩ : Dot), true, [], []⟩ : Djudge_Act), (⟨true, 3, (⟨#[107]⟩ : ByteArray), (⟨0, 0⟩ : Dot), true, [z5], [2, 0]⟩ : Djudge_Act), (⟨false, 3, (⟨#[107]⟩ : ByteArray), (⟨z9.s, z9.n⟩ : Dot), true, [], []⟩ : Djudge_Act)] 2).seen⟩ : Djudge_Act))) fun z73 => (Option.bind (gcall ((z33.1 == (-1)) && (z33.2 == 0)) (m_firthlaw23_dot 1 1)) fun z85 => (Option.bind (gcall ((z33.1 == (-1)) && (z33.2 == 0)) (m_firthlaw23_dot 1 2)) fun z88 => (bif ((z33.1 == (-1)) && (z33.2 == 0)) then
 (chk (i64b z85.s) (chk (i64b z85.n) (chk (i64b z88.s) (chk (i64b z88.n) (Option.bind (m_firthref23_Same z45 [z85, z88]) fun z97 => (some ((z97 && (z73.1 == 2)) && (z73.2 == 6))))))))
 else
 (some false)))))))))))))))))))))))))
noncomputable def m_firthref23_Has_b1 (d : Dot) (f2 : Unit → Option Bool) (i3 : Nat) (ei3 : Dot) : Unit → Option Bool := fun _ =>
 (bif (ei3 == d) then
 (some true)
 else
 (f2 ()))
noncomputable def m_firthref23_Has (l : List Dot) (d : Dot) : Option Bool :=
 (forI (m_firthref23_Has_b1 d) (fun _ =>
 (some false)) 0 l ())
noncomputable def m_firthlaw23_JudgeTells_j6 (list_11 : List Djudge_Act) (x16 : List Int) (f20 : (List Djudge_Act) × (List Int) → Option Bool) (z27 : Int) (k_33 : ByteArray) : Option Bool :=
 (Option.bind (m_firthlaw23_dot (w64 (z27 + 1)) (gt (List.set x16 z27.toNat (w64 ((gt x16 z27.toNat) + 1))) z27.toNat)) fun z43 => (chk (i64b z43.s) (chk (i64b z43.n) (chk (decide (list_11.length + 1 ≤ lim)) (f20 ((list_11 ++ [(⟨false, z27, k_33, (⟨z43.s, z43.n⟩ : Dot), true, [], []⟩ : Djudge_Act)]), (List.set x16 z27.toNat (w64 ((gt x16 z27.toNat) + 1)))))))))
noncomputable def m_firthlaw23_JudgeTells_b11 (list_11 : List Djudge_Act) (i56 : Nat) (f78 : Unit → Option Bool) (i79 : Nat) (ei79 : Dot) : Unit → Option Bool := fun _ =>
 (Option.bind (m_firthlaw23_dot ((gt list_11 i56).dot.s) ((i79 + 1 : Nat) : Int)) fun z90 => (bif (ei79 != z90) then
 (some false)
 else
 (f78 ())))
noncomputable def m_firthlaw23_JudgeTells_b10 (list_11 : List Djudge_Act) (f55 : Unit → Option Bool) (i56 : Nat) (ei56 : Djudge_Act) : Unit → Option Bool := fun _ =>
 (Option.bind (m_judge_Behind_l0 list_11 (ei56.dot)) fun z67 => (bif (((z67.length : Nat) : Int) != (w64 (ei56.dot.n - 1))) then
 (some false)
 else
 (forI (m_firthlaw23_JudgeTells_b11 list_11 i56) (fun _ =>
 (f55 ())) 0 z67 ())))
noncomputable def m_firthlaw23_JudgeTells_b5 (keys : List UInt8) (f20 : (List Djudge_Act) × (List Int) → Option Bool) (i21 : Nat) (ei21 : UInt8) : (List Djudge_Act) × (List Int) → Option Bool := fun (list_11, x16) =>
 (Option.bind (some (w64 (((ei21.toNat : Nat) : Int).tmod 4))) fun z27 => (chk (inb z27 4) (chk (imp (decide (((i21 : Nat) : Int) < ((keys.length : Nat) : Int))) (decide (i21 < keys.length))) (bif ((decide (((i21 : Nat) : Int) < ((keys.length : Nat) : Int))) && (((((gt keys i21).toNat : Nat) : Int).tmod 2) == 1)) then
 (m_firthlaw23_JudgeTells_j6 list_11 x16 f20 z27 (⟨#[98]⟩ : ByteArray))
 else
 (m_firthlaw23_JudgeTells_j6 list_11 x16 f20 z27 (⟨#[97]⟩ : ByteArray))))))
noncomputable def m_firthlaw23_JudgeTells (sites : List UInt8) (keys : List UInt8) (at_ : Int) : Option Bool :=
 (Option.bind (m_firthlaw23_awake) fun z1 => (bif ((!z1) || (decide (60 < ((sites.length : Nat) : Int)))) then
 (Option.bind (m_firthlaw23_awake) fun z7 => (some z7))
 else
 (forI (m_firthlaw23_JudgeTells_b5 keys) (fun (list_11, x16) =>
 (forI (m_firthlaw23_JudgeTells_b10 list_11) (fun _ =>
 (bif ((decide (at_ < 0)) || (decide (((list_11.length : Nat) : Int) ≤ at_))) then
 (some true)
 else
 (chk (inb at_ list_11.length) (chk (decide (0 + 1 ≤ lim)) (Option.bind (m_firthlaw23_dot 9 1) fun z117 => (chk (i64b z117.s) (chk (i64b z117.n) (chk (decide (list_11.length + 2 ≤ lim)) (Option.bind (m_firthlaw23_dot 9 1) fun z128 => (chk (i64b z128.s) (chk (i64b z128.n) (Option.bind (m_judge_Behind_l0 (list_11 ++ [(⟨true, 9, (gt list_11 at_.toNat).key, (⟨0, 0⟩ : Dot), true, [(gt list_11 at_.toNat).dot], []⟩ : Djudge_Act), (⟨false, 9, (⟨#[99]⟩ : ByteArray), (⟨z117.s, z117.n⟩ : Dot), true, [], []⟩ : Djudge_Act)]) z128) fun z132 => (Option.bind (gcall (((z132.length : Nat) : Int) == (gt list_11 at_.toNat).dot.n) (m_firthref23_Has z132 ((gt list_11 at_.toNat).dot))) fun z146 => (some ((((z132.length : Nat) : Int) == (gt list_11 at_.toNat).dot.n) && z146))))))))))))))) 0 list_11 ())) 0 sites ([], [0, 0, 0, 0]))))
noncomputable def m_firthlaw23_acts_b1 (f6 : List Dfirthref23_Act → Option (List Dfirthref23_Act)) (i7 : Nat) (ei7 : Djudge_Act) : List Dfirthref23_Act → Option (List Dfirthref23_Act) := fun out_1 =>
 (chk (decide (out_1.length + 1 ≤ lim)) (f6 (out_1 ++ [(⟨ei7.read, ei7.sess, ei7.key, (⟨ei7.dot.s, ei7.dot.n⟩ : Dot), ei7.oK, ei7.reads, ei7.seen⟩ : Dfirthref23_Act)])))
noncomputable def m_firthlaw23_acts (l : List Djudge_Act) : Option (List Dfirthref23_Act) :=
 (forI (m_firthlaw23_acts_b1) (fun out_1 =>
 (some out_1)) 0 l [])
noncomputable def m_firthref23_First_b1 (d : Dot) (f2 : Unit → Option Int) (i3 : Nat) (ei3 : Dfirthref23_Act) : Unit → Option Int := fun _ =>
 (bif (((!ei3.read) && (ei3.dot == d)) && (decide (0 < d.n))) then
 (some ((i3 : Nat) : Int))
 else
 (f2 ()))
noncomputable def m_firthref23_First (list : List Dfirthref23_Act) (d : Dot) : Option Int :=
 (forI (m_firthref23_First_b1 d) (fun _ =>
 (some (-1))) 0 list ())
noncomputable def m_firthlaw23_JudgeGoesOn_b5 (more : List Djudge_Act) (i23 : Nat) (f29 : Unit → Option Bool) (i30 : Nat) (ei30 : Djudge_Act) : Unit → Option Bool := fun _ =>
 (Option.bind (gcall (!(gt more i23).read) (m_firthref23_Has (ei30.reads) ((gt more i23).dot))) fun z57 => (bif ((!(gt more i23).read) && z57) then
 (some true)
 else
 (f29 ())))
noncomputable def m_firthlaw23_JudgeGoesOn_b6 (list : List Djudge_Act) (more : List Djudge_Act) (z12 : List Dfirthref23_Act) (f72 : Unit → Option Bool) (i73 : Nat) (ei73 : Djudge_Act) : Unit → Option Bool := fun _ =>
 (bif (!ei73.read) then
 (Option.bind (m_judge_Behind_l0 (list ++ more) (ei73.dot)) fun z98 => (Option.bind (m_judge_Behind_l0 list (ei73.dot)) fun z108 => (Option.bind (gcall (!ei73.read) (m_firthref23_Same z98 z108)) fun z119 => (Option.bind (gcall (!z119) (m_firthref23_First z12 (ei73.dot))) fun z129 => (bif ((!z119) && (decide (0 ≤ z129))) then
 (some false)
 else
 (f72 ()))))))
 else
 (f72 ()))
noncomputable def m_firthlaw23_JudgeGoesOn_b4 (list : List Djudge_Act) (more : List Djudge_Act) (f22 : Unit → Option Bool) (i23 : Nat) (ei23 : Djudge_Act) : Unit → Option Bool := fun _ =>
 (forI (m_firthlaw23_JudgeGoesOn_b5 more i23) (fun _ =>
 (f22 ())) 0 list ())
noncomputable def m_firthlaw23_JudgeGoesOn (list : List Djudge_Act) (more : List Djudge_Act) : Option Bool :=
 (Option.bind (m_firthlaw23_awake) fun z1 => (bif ((!z1) || (decide (60 < (w64 (((list.length : Nat) : Int) + ((more.length : Nat) : Int)))))) then
 (Option.bind (m_firthlaw23_awake) fun z10 => (some z10))
 else
 (Option.bind (m_firthlaw23_acts list) fun z12 => (forI (m_firthlaw23_JudgeGoesOn_b4 list more) (fun _ =>
 (chk (decide (0 + list.length ≤ lim)) (chk (decide (list.length + more.length ≤ lim)) (forI (m_firthlaw23_JudgeGoesOn_b6 list more z12) (fun _ =>
 (some true)) 0 list ())))) 0 more ()))))
noncomputable def m_firthref05_Less (a : Dot) (b : Dot) : Option Bool :=
 (bif (a.s != b.s) then
 (some (decide (a.s < b.s)))
 else
 (some (decide (a.n < b.n))))
noncomputable def m_firthref23_Put_j5 (l : List Dot) (f11 : (List Dot) × Bool → Option (List Dot)) (i12 : Nat) (out_18 : List Dot) (laid_23 : Bool) : Option (List Dot) :=
 (chk (decide (out_18.length + 1 ≤ lim)) (f11 ((out_18 ++ [(gt l i12)]), laid_23)))
noncomputable def m_firthref23_Put_b4 (l : List Dot) (d : Dot) (f11 : (List Dot) × Bool → Option (List Dot)) (i12 : Nat) (ei12 : Dot) : (List Dot) × Bool → Option (List Dot) := fun (out_5, laid_10) =>
 (Option.bind (gcall (!laid_10) (m_firthref05_Less d ei12)) fun z30 => (bif ((!laid_10) && z30) then
 (chk (decide (out_5.length + 1 ≤ lim)) (m_firthref23_Put_j5 l f11 i12 (out_5 ++ [d]) true))
 else
 (m_firthref23_Put_j5 l f11 i12 out_5 laid_10)))
noncomputable def m_firthref23_Put (l : List Dot) (d : Dot) : Option (List Dot) :=
 (Option.bind (m_firthref23_Has l d) fun z2 => (bif z2 then
 (some l)
 else
 (forI (m_firthref23_Put_b4 l d) (fun (out_5, laid_10) =>
 (bif (!laid_10) then
 (chk (decide (out_5.length + 1 ≤ lim)) (some (out_5 ++ [d])))
 else
 (some out_5))) 0 l ([], false))))
noncomputable def m_firthref23_All_b1 (f8 : List Dot → Option (List Dot)) (i9 : Nat) (ei9 : Dot) : List Dot → Option (List Dot) := fun l_3 =>
 (Option.bind (m_firthref23_Put l_3 ei9) fun z15 => (f8 z15))
noncomputable def m_firthref23_All (l : List Dot) (more : List Dot) : Option (List Dot) :=
 (forI (m_firthref23_All_b1) (fun l_3 =>
 (some l_3)) 0 more l)
noncomputable def m_firthref23_Steps_j5 (f8 : List Dot → Option (List Dot)) (out_17 : List Dot) : Option (List Dot) :=
 (f8 out_17)
noncomputable def m_firthref23_Steps_b4 (list : List Dfirthref23_Act) (at_ : Int) (f8 : List Dot → Option (List Dot)) (i9 : Nat) : List Dot → Option (List Dot) := fun out_3 =>
 (chk (decide (i9 < list.length)) (chk (inb at_ list.length) (bif (((gt list i9).sess != (gt list at_.toNat).sess) || (!(gt list i9).oK)) then
 (m_firthref23_Steps_j5 f8 out_3)
 else
 (bif ((gt list i9).read) then
 (Option.bind (m_firthref23_All out_3 ((gt list i9).reads)) fun z40 => (m_firthref23_Steps_j5 f8 z40))
 else
 (bif (decide (0 < (gt list i9).dot.n)) then
 (Option.bind (m_firthref23_Put out_3 ((gt list i9).dot)) fun z51 => (m_firthref23_Steps_j5 f8 z51))
 else
 (m_firthref23_Steps_j5 f8 out_3))))))
noncomputable def m_firthref23_Steps (list : List Dfirthref23_Act) (at_ : Int) : Option (List Dot) :=
 (forU (m_firthref23_Steps_b4 list at_) (fun out_3 =>
 (some out_3)) at_.toNat 0 [])
noncomputable def m_firthref23_Closure_j5 (i_18 : Int) (f20 : (List Dot) × (List Dot) × Int → Option (List Dot)) (out_27 : List Dot) (todo_32 : List Dot) : Option (List Dot) :=
 (f20 (out_27, todo_32, (w64 (i_18 + 1))))
noncomputable def m_firthref23_Closure_b4 (list : List Dfirthref23_Act) (f20 : (List Dot) × (List Dot) × Int → Option (List Dot)) : (List Dot) × (List Dot) × Int → Option (List Dot) := fun (out_8, todo_13, i_18) =>
 (bif (decide (i_18 < ((todo_13.length : Nat) : Int))) then
 (chk (inb i_18 todo_13.length) (Option.bind (m_firthref23_Has out_8 (gt todo_13 i_18.toNat)) fun z38 => (bif z38 then
 (m_firthref23_Closure_j5 i_18 f20 out_8 todo_13)
 else
 (Option.bind (m_firthref23_Put out_8 (gt todo_13 i_18.toNat)) fun z41 => (Option.bind (m_firthref23_First list (gt todo_13 i_18.toNat)) fun z51 => (bif (decide (0 ≤ z51)) then
 (chk (i64b z51) (Option.bind (m_firthref23_Steps list z51) fun z55 => (chk (decide (todo_13.length + z55.length ≤ lim)) (m_firthref23_Closure_j5 i_18 f20 z41 (todo_13 ++ z55)))))
 else
 (m_firthref23_Closure_j5 i_18 f20 z41 todo_13)))))))
 else
 (some out_8))
noncomputable def m_firthref23_Closure (list : List Dfirthref23_Act) (l : List Dot) : Option (List Dot) :=
 (chk (decide (0 + l.length ≤ lim)) (loopN (m_firthref23_Closure_b4 list) FU ([], l, 0)))
noncomputable def m_firthref23_Saw (list : List Dfirthref23_Act) (i_ : Int) : Option (List Dot) :=
 (bif ((decide (i_ < 0)) || (decide (((list.length : Nat) : Int) ≤ i_))) then
 (some [])
 else
 (Option.bind (m_firthref23_Steps list i_) fun z6 => (Option.bind (m_firthref23_Closure list z6) fun z16 => (some z16))))
noncomputable def m_firthlaw23_covered (v_ : List Int) (d : Dot) : Option Bool :=
 (chk (imp (((decide (1 ≤ d.s)) && (decide (d.s ≤ ((v_.length : Nat) : Int)))) && (decide (1 ≤ d.n))) (inb (w64 (d.s - 1)) v_.length)) (some ((((decide (1 ≤ d.s)) && (decide (d.s ≤ ((v_.length : Nat) : Int)))) && (decide (1 ≤ d.n))) && (decide (d.n ≤ (gt v_ ((w64 (d.s - 1)).toNat)))))))
noncomputable def m_firthref23_Behind (list : List Dfirthref23_Act) (d : Dot) : Option (List Dot) :=
 (Option.bind (m_firthref23_First list d) fun z2 => (bif (decide (z2 < 0)) then
 (some [])
 else
 (chk (i64b z2) (Option.bind (m_firthref23_Steps list z2) fun z6 => (Option.bind (m_firthref23_Closure list z6) fun z16 => (some z16))))))
noncomputable def m_firthref23_Greatest_j5 (f6 : List Dot → Option (List Dot)) (under_13 : List Dot) : Option (List Dot) :=
 (f6 under_13)
noncomputable def m_firthref23_Greatest_j11 (f79 : List Dot → Option (List Dot)) (out_86 : List Dot) : Option (List Dot) :=
 (f79 out_86)
noncomputable def m_firthref23_Greatest_b10 (past_42 : List Dot) (f79 : List Dot → Option (List Dot)) (i80 : Nat) (ei80 : Dot) : List Dot → Option (List Dot) := fun out_74 =>
 (Option.bind (m_firthref23_Has past_42 ei80) fun z91 => (bif (!z91) then
 (chk (decide (out_74.length + 1 ≤ lim)) (m_firthref23_Greatest_j11 f79 (out_74 ++ [ei80])))
 else
 (m_firthref23_Greatest_j11 f79 out_74)))
noncomputable def m_firthref23_Greatest_b6 (list : List Dfirthref23_Act) (f47 : List Dot → Option (List Dot)) (i48 : Nat) (ei48 : Dot) : List Dot → Option (List Dot) := fun past_42 =>
 (Option.bind (m_firthref23_Behind list ei48) fun z54 => (Option.bind (m_firthref23_All past_42 z54) fun z64 => (f47 z64)))
noncomputable def m_firthref23_Greatest_b4 (list : List Dfirthref23_Act) (key : ByteArray) (f6 : List Dot → Option (List Dot)) (i7 : Nat) (ei7 : Dot) : List Dot → Option (List Dot) := fun under_1 =>
 (Option.bind (m_firthref23_First list ei7) fun z18 => (chk (imp (decide (0 ≤ z18)) (inb z18 list.length)) (bif ((decide (0 ≤ z18)) && ((gt list z18.toNat).key == key)) then
 (chk (decide (under_1.length + 1 ≤ lim)) (m_firthref23_Greatest_j5 f6 (under_1 ++ [ei7])))
 else
 (m_firthref23_Greatest_j5 f6 under_1))))
noncomputable def m_firthref23_Greatest (list : List Dfirthref23_Act) (h_ : List Dot) (key : ByteArray) : Option (List Dot) :=
 (forI (m_firthref23_Greatest_b4 list key) (fun under_1 =>
 (forI (m_firthref23_Greatest_b6 list) (fun past_42 =>
 (forI (m_firthref23_Greatest_b10 past_42) (fun out_74 =>
 (some out_74)) 0 under_1 [])) 0 under_1 [])) 0 h_ [])
noncomputable def m_firthlaw23_JudgeFinds_j1 (list : List Djudge_Act) (which : Int) (x82 : List Dot) : Option Bool :=
 (Option.bind (m_judge_Judge_l0 (List.set list which.toNat (⟨(gt list which.toNat).read, (gt list which.toNat).sess, (gt list which.toNat).key, (⟨(gt list which.toNat).dot.s, (gt list which.toNat).dot.n⟩ : Dot), (gt list which.toNat).oK, x82, (gt list which.toNat).seen⟩ : Djudge_Act))) fun z165 => (some (z165.2 != 0)))
noncomputable def m_firthlaw23_JudgeFinds (list : List Djudge_Act) (which : Int) (less : Bool) : Option Bool :=
 (Option.bind (m_firthlaw23_awake) fun z1 => (bif ((!z1) || (decide (60 < ((list.length : Nat) : Int)))) then
 (Option.bind (m_firthlaw23_awake) fun z7 => (some z7))
 else
 (Option.bind (m_judge_Judge_l0 list) fun z9 => (chk (imp (!((((z9.2 != 0) || (z9.1 != (-1))) || (decide (which < 0))) || (decide (((list.length : Nat) : Int) ≤ which)))) (inb which list.length)) (chk (imp (!(((((z9.2 != 0) || (z9.1 != (-1))) || (decide (which < 0))) || (decide (((list.length : Nat) : Int) ≤ which))) || (!(gt list which.toNat).read))) (inb which list.length)) (chk (imp (!((((((z9.2 != 0) || (z9.1 != (-1))) || (decide (which < 0))) || (decide (((list.length : Nat) : Int) ≤ which))) || (!(gt list which.toNat).read)) || (!(gt list which.toNat).oK))) (inb which list.length)) (bif (((((((z9.2 != 0) || (z9.1 != (-1))) || (decide (which < 0))) || (decide (((list.length : Nat) : Int) ≤ which))) || (!(gt list which.toNat).read)) || (!(gt list which.toNat).oK)) || (((((gt list which.toNat).reads).length : Nat) : Int) == 0)) then
 (some ((z9.2 == 0) == (z9.1 == (-1))))
 else
 (Option.bind (m_firthlaw23_acts list) fun z53 => (chk (inb which list.length) (Option.bind (m_firthref23_All [] ((gt list which.toNat).reads)) fun z64 => (chk (decide (0 + list.length ≤ lim)) (bif less then
 (chk (decide (1 ≤ z64.length)) (chk (decide (0 < z64.length)) (Option.bind (m_firthref23_Saw z53 which) fun z96 => (Option.bind (m_firthref23_Has z96 (gt z64 0)) fun z106 => (Option.bind (gcall (!z106) (m_firthlaw23_covered ((gt list which.toNat).seen) (gt z64 0))) fun z114 => (bif ((!z106) && (!z114)) then
 (some true)
 else
 (m_firthlaw23_JudgeFinds_j1 list which (List.drop 1 z64))))))))
 else
 (chk (decide (0 < z64.length)) (Option.bind (m_firthref23_Behind z53 (gt z64 0)) fun z125 => (Option.bind (m_firthref23_Greatest z53 z125 ((gt list which.toNat).key)) fun z135 => (bif (((z135.length : Nat) : Int) == 0) then
 (some true)
 else
 (chk (decide (0 + z64.length ≤ lim)) (chk (decide (0 < z135.length)) (chk (decide (z64.length + 1 ≤ lim)) (m_firthlaw23_JudgeFinds_j1 list which (z64 ++ [(gt z135 0)])))))))))))))))))))))
noncomputable def m_firthlaw23_JudgeKeeps_b3 (z10 : List Dfirthref23_Act) (x22 : List Dfirthref23_Act) (f112 : Unit → Option Bool) (i113 : Nat) (ei113 : Dfirthref23_Act) : Unit → Option Bool := fun _ =>
 (chk (decide (i113 < z10.length)) (Option.bind (gcall (!(((ei113.read != (gt x22 i113).read) || (ei113.dot != (gt x22 i113).dot)) || (ei113.key != (gt x22 i113).key))) (m_firthref23_Same (ei113.reads) ((gt x22 i113).reads))) fun z163 => (bif (((((ei113.read != (gt x22 i113).read) || (ei113.dot != (gt x22 i113).dot)) || (ei113.key != (gt x22 i113).key)) || (!z163)) || ((((ei113.seen).length : Nat) : Int) != ((((gt x22 i113).seen).length : Nat) : Int))) then
 (some false)
 else
 (f112 ()))))
noncomputable def m_firthlaw23_JudgeKeeps_b2 (f93 : List Dot → Option Bool) (i94 : Nat) : List Dot → Option Bool := fun x89 =>
 (f93 (List.set x89 i94 (⟨(gt x89 i94).s, (-1)⟩ : Dot)))
noncomputable def m_firthlaw23_JudgeKeeps_b1 (f26 : List Dfirthref23_Act → Option Bool) (i27 : Nat) : List Dfirthref23_Act → Option Bool := fun x22 =>
 (chk (decide (0 + ((gt x22 i27).reads).length ≤ lim)) (chk (decide (0 + ((gt (List.set x22 i27 (⟨(gt x22 i27).read, (gt x22 i27).sess, (gt x22 i27).key, (⟨(gt x22 i27).dot.s, (gt x22 i27).dot.n⟩ : Dot), (gt x22 i27).oK, (([] : List Dot) ++ (gt x22 i27).reads), (gt x22 i27).seen⟩ : Dfirthref23_Act)) i27).seen).length ≤ lim)) (f26 (List.set (List.set x22 i27 (⟨(gt x22 i27).read, (gt x22 i27).sess, (gt x22 i27).key, (⟨(gt x22 i27).dot.s, (gt x22 i27).dot.n⟩ : Dot), (gt x22 i27).oK, (([] : List Dot) ++ (gt x22 i27).reads), (gt x22 i27).seen⟩ : Dfirthref23_Act)) i27 (⟨(gt (List.set x22 i27 (⟨(gt x22 i27).read, (gt x22 i27).sess, (gt x22 i27).key, (⟨(gt x22 i27).dot.s, (gt x22 i27).dot.n⟩ : Dot), (gt x22 i27).oK, (([] : List Dot) ++ (gt x22 i27).reads), (gt x22 i27).seen⟩ : Dfirthref23_Act)) i27).read, (gt (List.set x22 i27 (⟨(gt x22 i27).read, (gt x22 i27).sess, (gt x22 i27).key, (⟨(gt x22 i27).dot.s, (gt x22 i27).dot.n⟩ : Dot), (gt x22 i27).oK, (([] : List Dot) ++ (gt x22 i27).reads), (gt x22 i27).seen⟩ : Dfirthref23_Act)) i27).sess, (gt (List.set x22 i27 (⟨(gt x22 i27).read, (gt x22 i27).sess, (gt x22 i27).key, (⟨(gt x22 i27).dot.s, (gt x22 i27).dot.n⟩ : Dot), (gt x22 i27).oK, (([] : List Dot) ++ (gt x22 i27).reads), (gt x22 i27).seen⟩ : Dfirthref23_Act)) i27).key, (⟨(gt (List.set x22 i27 (⟨(gt x22 i27).read, (gt x22 i27).sess, (gt x22 i27).key, (⟨(gt x22 i27).dot.s, (gt x22 i27).dot.n⟩ : Dot), (gt x22 i27).oK, (([] : List Dot) ++ (gt x22 i27).reads), (gt x22 i27).seen⟩ : Dfirthref23_Act)) i27).dot.s, (gt (List.set x22 i27 (⟨(gt x22 i27).read, (gt x22 i27).sess, (gt x22 i27).key, (⟨(gt x22 i27).dot.s, (gt x22 i27).dot.n⟩ : Dot), (gt x22 i27).oK, (([] : List Dot) ++ (gt x22 i27).reads), (gt x22 i27).seen⟩ : Dfirthref23_Act)) i27).dot.n⟩ : Dot), (gt (List.set x22 i27 (⟨(gt x22 i27).read, (gt x22 i27).sess, (gt x22 i27).key, (⟨(gt x22 i27).dot.s, (gt x22 i27).dot.n⟩ : Dot), (gt x22 i27).oK, (([] : List Dot) ++ (gt x22 i27).reads), (gt x22 i27).seen⟩ : Dfirthref23_Act)) i27).oK, (gt (List.set x22 i27 (⟨(gt x22 i27).read, (gt x22 i27).sess, (gt x22 i27).key, (⟨(gt x22 i27).dot.s, (gt x22 i27).dot.n⟩ : Dot), (gt x22 i27).oK, (([] : List Dot) ++ (gt x22 i27).reads), (gt x22 i27).seen⟩ : Dfirthref23_Act)) i27).reads, (([] : List Int) ++ (gt (List.set x22 i27 (⟨(gt x22 i27).read, (gt x22 i27).sess, (gt x22 i27).key, (⟨(gt x22 i27).dot.s, (gt x22 i27).dot.n⟩ : Dot), (gt x22 i27).oK, (([] : List Dot) ++ (gt x22 i27).reads), (gt x22 i27).seen⟩ : Dfirthref23_Act)) i27).seen)⟩ : Dfirthref23_Act)))))
noncomputable def m_firthlaw23_JudgeKeeps (list : List Djudge_Act) (d : Dot) : Option Bool :=
 (Option.bind (m_firthlaw23_awake) fun z2 => (bif ((!z2) || (decide (60 < ((list.length : Nat) : Int)))) then
 (Option.bind (m_firthlaw23_awake) fun z8 => (some z8))
 else
 (Option.bind (m_firthlaw23_acts list) fun z10 => (forU (m_firthlaw23_JudgeKeeps_b1) (fun x22 =>
 (Option.bind (m_judge_Judge_l0 list) fun z71 => (Option.bind (m_judge_Behind_l0 list d) fun z79 => (forU (m_firthlaw23_JudgeKeeps_b2) (fun x89 =>
 (Option.bind (m_firthlaw23_acts list) fun z102 => (forI (m_firthlaw23_JudgeKeeps_b3 z10 x22) (fun _ =>
 (Option.bind (m_judge_Behind_l0 list d) fun z186 => (Option.bind (m_firthref23_Behind x22 d) fun z196 => (Option.bind (m_firthref23_Same z186 z196) fun z206 => (some z206))))) 0 z102 ()))) z79.length 0 z79)))) z10.length 0 z10))))
end Fw
end Go.Proofs.Ytldpanjodokefaa
