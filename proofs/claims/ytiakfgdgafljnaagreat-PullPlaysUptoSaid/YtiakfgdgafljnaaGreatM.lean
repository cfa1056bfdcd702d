/- What the functions compute, as Lean functions (printed by a program). No condition. -/
import Derived.Test.YtiakfgdgafljnaaGreatE
import Derived.Test.YtiakfgdgafljnaaGreatK14
import Derived.Test.YtiakfgdgafljnaaGreatK15
import Derived.Test.YtiakfgdgafljnaaGreatK17
import Derived.Test.YtiakfgdgafljnaaGreatK18
import Derived.Test.YtiakfgdgafljnaaGreatK19
import Derived.Test.YtiakfgdgafljnaaGreatK20
import Derived.Test.YtiakfgdgafljnaaGreatK21
import Derived.Test.YtiakfgdgafljnaaGreatK22
namespace Go.Proofs.YtiakfgdgafljnaaGreat
namespace Fw
set_option linter.unusedVariables false
set_option linter.unusedSimpArgs false
set_option linter.unusedSectionVars false
open Go.RowKit
structure OTree where
  leaves:List (Option (List (ByteArray×Rec)))
  sums:List ((Int×Int×Int)×Int)
  deriving Inhabited,DecidableEq
structure Opull_Cut where
  id:Int
  vec:(List Int)
  tree:OTree
  deriving Inhabited,DecidableEq
structure Ofirthref19_Cut where
  id:Int
  vec:(List Int)
  all:(List Rec)
  deriving Inhabited,DecidableEq
structure Opull_Pull where
  id:Int
  own:OTree
  begun:Bool
  vec:(List Int)
  wants:(List Dpull_way)
  staged:OTree
  deriving Inhabited,DecidableEq
structure Ofirthref19_Pull where
  id:Int
  own:(List Rec)
  begun:Bool
  vec:(List Int)
  paths:(List (List Int))
  in_:(List Rec)
  deriving Inhabited,DecidableEq
def m_span_Right_b1(f4:Span→Option Bool)(i5:Nat)(ei5:Span):Span→Option Bool:=λx2=>
 (bif (((((((decide (ei5.s<1))||(decide (16<ei5.s)))||(decide (ei5.f<1)))||(decide (ei5.t<ei5.f)))||(decide (4611686018427387904<ei5.t)))||(decide (ei5.s<x2.s)))||((ei5.s==x2.s)&&(decide (ei5.f≤(w64 (x2.t+1)))))) then
 (some false)
 else
 (f4 ei5))
def m_span_Right(l:List Span):Option Bool:=
 (forI (m_span_Right_b1) (λx2=>
 (some (decide (((l.length:Nat):Int)≤1024)))) 0 l (⟨0,0,0⟩:Span))
def m_span_Top_j6(f3:Int→Option Int)(top_10:Int):Option Int:=
 (f3 top_10)
def m_span_Top_b5(s_:Int)(f3:Int→Option Int)(i4:Nat)(ei4:Span):Int→Option Int:=λtop_1=>
 (bif (ei4.s==s_) then
 (m_span_Top_j6 f3 (max top_1 ei4.t))
 else
 (m_span_Top_j6 f3 top_1))
def m_span_Top(l:List Span)(s_:Int):Option Int:=
 (forI (m_span_Top_b5 s_) (λtop_1=>
 (some top_1)) 0 l 0)
def m_vers_RightOne(v_:Ver):Option Bool:=
 (Option.bind (m_span_Right [(⟨v_.dot.s,v_.dot.n,v_.dot.n⟩:Span)]) λz6=>(Option.bind (gcall z6 (m_span_Right v_.past)) λz11=>(Option.bind (gcall (z6&&z11) (m_span_Top v_.past v_.dot.s)) λz22=>(some ((((z6&&z11)&&(decide (z22<v_.dot.n)))&&(decide (((v_.val.size:Nat):Int)≤256)))&&((!v_.gone)||(v_.val==ByteArray.empty)))))))
def m_vers_before(a:Dot)(b:Dot):Option Bool:=
 (some ((decide (a.s<b.s))||((a.s==b.s)&&(decide (a.n<b.n)))))
def m_span_Has_b1(d:Dot)(f2:Unit→Option Bool)(i3:Nat)(ei3:Span):Unit→Option Bool:=λ_=>
 (bif (((ei3.s==d.s)&&(decide (ei3.f≤d.n)))&&(decide (d.n≤ei3.t))) then
 (some true)
 else
 (f2 ()))
def m_span_Has(l:List Span)(d:Dot):Option Bool:=
 (forI (m_span_Has_b1 d) (λ_=>
 (some false)) 0 l ())
def m_vers_behind_b1(d:Dot)(f2:Unit→Option Bool)(i3:Nat)(ei3:Ver):Unit→Option Bool:=λ_=>
 (Option.bind (m_span_Has (ei3.past) d) λz13=>(bif z13 then
 (some true)
 else
 (f2 ())))
def m_vers_behind(d:Dot)(l:List Ver):Option Bool:=
 (forI (m_vers_behind_b1 d) (λ_=>
 (some false)) 0 l ())
def m_vers_Right_b1(l:List Ver)(f1:Unit→Option Bool)(i2:Nat)(ei2:Ver):Unit→Option Bool:=λ_=>
 (Option.bind (m_vers_RightOne ei2) λz12=>(chk (imp ((!(!z12))&&(decide (0<((i2:Nat):Int)))) (inb (w64 (((i2:Nat):Int) - 1)) l.length)) (Option.bind (gcall ((!(!z12))&&(decide (0<((i2:Nat):Int)))) (m_vers_before ((gt l ((w64 (((i2:Nat):Int) - 1)).toNat)).dot) (ei2.dot))) λz30=>(Option.bind (gcall (!((!z12)||((decide (0<((i2:Nat):Int)))&&(!z30)))) (m_vers_behind (ei2.dot) l)) λz38=>(bif (((!z12)||((decide (0<((i2:Nat):Int)))&&(!z30)))||z38) then
 (some false)
 else
 (f1 ()))))))
def m_vers_Right(l:List Ver):Option Bool:=
 (forI (m_vers_Right_b1 l) (λ_=>
 (some (decide (((l.length:Nat):Int)≤512)))) 0 l ())
def m_code_RightRec(r_:Rec):Option Bool:=
 (Option.bind (gcall ((decide (1≤((r_.key.size:Nat):Int)))&&(decide (((r_.key.size:Nat):Int)≤32))) (m_vers_Right r_.vers)) λz9=>(some (((decide (1≤((r_.key.size:Nat):Int)))&&(decide (((r_.key.size:Nat):Int)≤32)))&&z9)))
def m_num_Hash_b1(f3:Int→Option Int)(i4:Nat)(ei4:UInt8):Int→Option Int:=λh_1=>
 (f3 (wu64 ((ixor .u64 h_1 (wu64 ((ei4.toNat:Nat):Int)))*1099511628211)))
def m_num_Hash(b:List UInt8):Option Int:=
 (forI (m_num_Hash_b1) (λh_1=>
 (some (ixor .u64 (wu64 ((ixor .u64 h_1 (ishr .u64 h_1 33))*18397679294719823053)) (ishr .u64 (wu64 ((ixor .u64 h_1 (ishr .u64 h_1 33))*18397679294719823053)) 33)))) 0 b 14695981039346656037)
def m_tree_Place(key:ByteArray):Option (List Int):=
 (Option.bind (m_num_Hash (key.data.toList)) λz7=>(some [(w64 (ishr .u64 z7 60)),(w64 (iand .u64 (ishr .u64 z7 56) 15))]))
def m_slices_Clone_api_Ver_api_Ver(s_:List Ver):Option (List Ver):=
 (nilc s_.isEmpty (
 (some []))
 ((chk (decide (0+s_.length≤lim)) (some (([]:List Ver)++s_)))))
def m_slices_Clone_api_Span_api_Span(s_:List Span):Option (List Span):=
 (nilc s_.isEmpty (
 (some []))
 ((chk (decide (0+s_.length≤lim)) (some (([]:List Span)++s_)))))
def m_tree_own_b1(f19:List Ver→Option Rec)(i20:Nat):List Ver→Option Rec:=λx15=>
 (Option.bind (m_slices_Clone_api_Span_api_Span ((gt x15 i20).past)) λz30=>(f19 (List.set x15 i20 (⟨(⟨(gt x15 i20).dot.s,(gt x15 i20).dot.n⟩:Dot),z30,(gt x15 i20).gone,(gt x15 i20).val⟩:Ver))))
def m_tree_own(r_:Rec):Option Rec:=
 (Option.bind (m_slices_Clone_api_Ver_api_Ver r_.vers) λz3=>(forU (m_tree_own_b1) (λx15=>
 (some (⟨r_.key,x15⟩:Rec))) z3.length 0 z3))
def m_tree_Tree_Set_j2(z5:List Int)(o43:OTree):Option (OTree×Int):=
 (some ((⟨o43.leaves,(mdel (2,(gt z5 0),(gt z5 1)) (mdel (1,(gt z5 0),0) (mdel (0,0,0) o43.sums)))⟩:OTree),0))
def m_tree_Tree_Set_j1(r_:Rec)(z5:List Int)(o19:OTree):Option (OTree×Int):=
 (Option.bind (gt o19.leaves (0+((gt z5 0).toNat)*16+((gt z5 1).toNat)*1)) λes32=>(bif (decide (0<((r_.vers.length:Nat):Int))) then
 (Option.bind (gt (⟨(List.set o19.leaves (0+((gt z5 0).toNat)*16+((gt z5 1).toNat)*1) (some (mdel r_.key es32))),o19.sums⟩:OTree).leaves (0+((gt z5 0).toNat)*16+((gt z5 1).toNat)*1)) λes49=>(Option.bind (m_tree_own r_) λz55=>(m_tree_Tree_Set_j2 z5 (⟨(List.set (⟨(List.set o19.leaves (0+((gt z5 0).toNat)*16+((gt z5 1).toNat)*1) (some (mdel r_.key es32))),o19.sums⟩:OTree).leaves (0+((gt z5 0).toNat)*16+((gt z5 1).toNat)*1) (some (mput r_.key z55 es49))),(⟨(List.set o19.leaves (0+((gt z5 0).toNat)*16+((gt z5 1).toNat)*1) (some (mdel r_.key es32))),o19.sums⟩:OTree).sums⟩:OTree))))
 else
 (m_tree_Tree_Set_j2 z5 (⟨(List.set o19.leaves (0+((gt z5 0).toNat)*16+((gt z5 1).toNat)*1) (some (mdel r_.key es32))),o19.sums⟩:OTree))))
def m_tree_Tree_Set(t_:OTree)(r_:Rec):Option (OTree×Int):=
 (Option.bind (m_code_RightRec r_) λz2=>(bif (!z2) then
 (some (t_,1))
 else
 (Option.bind (m_tree_Place r_.key) λz5=>(chk (decide (0<z5.length)) (chk (decide (1<z5.length)) (chk (inb (gt z5 0) 16) (chk (inb (gt z5 1) 16) (bif (Option.isNone (gt t_.leaves (0+((gt z5 0).toNat)*16+((gt z5 1).toNat)*1))) then
 (m_tree_Tree_Set_j1 r_ z5 (⟨(List.set t_.leaves (0+((gt z5 0).toNat)*16+((gt z5 1).toNat)*1) (some ([]:List (ByteArray×Rec)))),t_.sums⟩:OTree))
 else
 (m_tree_Tree_Set_j1 r_ z5 t_)))))))))
def m_tree_New_b1(f11:OTree→Option ((Option OTree)×Int))(i12:Nat)(ei12:Rec):OTree→Option ((Option OTree)×Int):=λo8=>
 (Option.bind (m_tree_Tree_Set o8 ei12) λz22=>(bif (z22.2 != 0) then
 (some (none,z22.2))
 else
 (f11 z22.1)))
def m_tree_New(list:List Rec):Option ((Option OTree)×Int):=
 (forI (m_tree_New_b1) (λo8=>
 (some ((some o8),0))) 0 list (⟨List.replicate 256 none,[]⟩:OTree))
def m_vect_Right_b1(f1:Unit→Option Bool)(i2:Nat)(ei2:Int):Unit→Option Bool:=λ_=>
 (bif ((decide (ei2<0))||(decide (4611686018427387904<ei2))) then
 (some false)
 else
 (f1 ()))
def m_vect_Right(v_:List Int):Option Bool:=
 (forI (m_vect_Right_b1) (λ_=>
 (some ((decide (1≤((v_.length:Nat):Int)))&&(decide (((v_.length:Nat):Int)≤16))))) 0 v_ ())
def m_slices_Clone_int64_int64(s_:List Int):Option (List Int):=
 (nilc s_.isEmpty (
 (some []))
 ((chk (decide (0+s_.length≤lim)) (some (([]:List Int)++s_)))))
def m_pull_NewCut(id:Int)(vec:List Int)(list:List Rec):Option ((Option Opull_Cut)×Int):=
 (Option.bind (m_tree_New list) λz1=>(Option.bind (gcall (!(z1.2 != 0)) (m_vect_Right vec)) λz13=>(bif ((z1.2 != 0)||(!z13)) then
 (some (none,1))
 else
 (Option.bind (m_slices_Clone_int64_int64 vec) λz17=>(Option.bind z1.1 λz27=>(some ((some (⟨id,z17,z27⟩:Opull_Cut)),0)))))))
def m_firthref03_Dot(d:Dot):Option Bool:=
 (some ((((decide (1≤d.s))&&(decide (d.s≤16)))&&(decide (1≤d.n)))&&(decide (d.n≤4611686018427387904))))
def m_firthref03_Right_b1(l:List Span)(f2:Unit→Option Bool)(i3:Nat)(ei3:Span):Unit→Option Bool:=λ_=>
 (Option.bind (m_firthref03_Dot (⟨ei3.s,ei3.f⟩:Dot)) λz9=>(Option.bind (gcall (!(!z9)) (m_firthref03_Dot (⟨ei3.s,ei3.t⟩:Dot))) λz23=>(bif (((!z9)||(!z23))||(decide (ei3.t<ei3.f))) then
 (some false)
 else
 (chk (imp (decide (0<((i3:Nat):Int))) (inb (w64 (((i3:Nat):Int) - 1)) l.length)) (bif ((decide (0<((i3:Nat):Int)))&&((decide (ei3.s<(gt l ((w64 (((i3:Nat):Int) - 1)).toNat)).s))||((ei3.s==(gt l ((w64 (((i3:Nat):Int) - 1)).toNat)).s)&&(decide ((w64 (ei3.f - 1))≤(gt l ((w64 (((i3:Nat):Int) - 1)).toNat)).t))))) then
 (some false)
 else
 (f2 ()))))))
def m_firthref03_Right(l:List Span):Option Bool:=
 (bif (decide (1024<((l.length:Nat):Int))) then
 (some false)
 else
 (forI (m_firthref03_Right_b1 l) (λ_=>
 (some true)) 0 l ()))
def m_firthref03_Top_j6(f3:Int→Option Int)(n_10:Int):Option Int:=
 (f3 n_10)
def m_firthref03_Top_b5(s_:Int)(f3:Int→Option Int)(i4:Nat)(ei4:Span):Int→Option Int:=λn_1=>
 (bif ((ei4.s==s_)&&(decide (n_1<ei4.t))) then
 (m_firthref03_Top_j6 f3 (ei4.t))
 else
 (m_firthref03_Top_j6 f3 n_1))
def m_firthref03_Top(l:List Span)(s_:Int):Option Int:=
 (forI (m_firthref03_Top_b5 s_) (λn_1=>
 (some n_1)) 0 l 0)
def m_firthref05_RightOne(v_:Ver):Option Bool:=
 (Option.bind (m_firthref03_Dot v_.dot) λz2=>(Option.bind (gcall (!(!z2)) (m_firthref03_Right v_.past)) λz7=>(Option.bind (gcall (!((!z2)||(!z7))) (m_firthref03_Top v_.past v_.dot.s)) λz16=>(bif (((!z2)||(!z7))||(decide (v_.dot.n≤z16))) then
 (some false)
 else
 (bif v_.gone then
 (some (v_.val==ByteArray.empty))
 else
 (some (decide (((v_.val.size:Nat):Int)≤256))))))))
def m_firthref03_Has_b1(d:Dot)(f2:Unit→Option Bool)(i3:Nat)(ei3:Span):Unit→Option Bool:=λ_=>
 (bif (((ei3.s==d.s)&&(decide (ei3.f≤d.n)))&&(decide (d.n≤ei3.t))) then
 (some true)
 else
 (f2 ()))
def m_firthref03_Has(l:List Span)(d:Dot):Option Bool:=
 (forI (m_firthref03_Has_b1 d) (λ_=>
 (some false)) 0 l ())
def m_firthref05_Behind_b1(d:Dot)(f2:Unit→Option Bool)(i3:Nat)(ei3:Ver):Unit→Option Bool:=λ_=>
 (Option.bind (m_firthref03_Has (ei3.past) d) λz12=>(bif z12 then
 (some true)
 else
 (f2 ())))
def m_firthref05_Behind(l:List Ver)(d:Dot):Option Bool:=
 (forI (m_firthref05_Behind_b1 d) (λ_=>
 (some false)) 0 l ())
def m_firthref05_Less(a:Dot)(b:Dot):Option Bool:=
 (bif (a.s != b.s) then
 (some (decide (a.s<b.s)))
 else
 (some (decide (a.n<b.n))))
def m_firthref05_Right_b1(l:List Ver)(f2:Unit→Option Bool)(i3:Nat)(ei3:Ver):Unit→Option Bool:=λ_=>
 (Option.bind (m_firthref05_RightOne ei3) λz12=>(Option.bind (gcall (!(!z12)) (m_firthref05_Behind l (ei3.dot))) λz21=>(bif ((!z12)||z21) then
 (some false)
 else
 (chk (imp (decide (0<((i3:Nat):Int))) (inb (w64 (((i3:Nat):Int) - 1)) l.length)) (Option.bind (gcall (decide (0<((i3:Nat):Int))) (m_firthref05_Less ((gt l ((w64 (((i3:Nat):Int) - 1)).toNat)).dot) (ei3.dot))) λz40=>(bif ((decide (0<((i3:Nat):Int)))&&(!z40)) then
 (some false)
 else
 (f2 ())))))))
def m_firthref05_Right(l:List Ver):Option Bool:=
 (bif (decide (512<((l.length:Nat):Int))) then
 (some false)
 else
 (forI (m_firthref05_Right_b1 l) (λ_=>
 (some true)) 0 l ()))
def m_firthref06_RightRec(r_:Rec):Option Bool:=
 (Option.bind (gcall ((r_.key != ByteArray.empty)&&(decide (((r_.key.size:Nat):Int)≤32))) (m_firthref05_Right r_.vers)) λz9=>(some (((r_.key != ByteArray.empty)&&(decide (((r_.key.size:Nat):Int)≤32)))&&z9)))
def m_firthref10_With_j11(f8:(List Rec)×Bool→Option (List Rec))(out_15:List Rec)(laid_20:Bool):Option (List Rec):=
 (f8 (out_15,laid_20))
def m_firthref10_With_j13(l:List Rec)(f8:(List Rec)×Bool→Option (List Rec))(i9:Nat)(out_25:List Rec)(laid_30:Bool):Option (List Rec):=
 (chk (decide (out_25.length+1≤lim)) (m_firthref10_With_j11 f8 (out_25++[(gt l i9)]) laid_30))
def m_firthref10_With_b10(l:List Rec)(r_:Rec)(f8:(List Rec)×Bool→Option (List Rec))(i9:Nat)(ei9:Rec):(List Rec)×Bool→Option (List Rec):=λ(out_2,laid_7)=>
 (bif (ei9.key==r_.key) then
 (m_firthref10_With_j11 f8 out_2 laid_7)
 else
 (bif ((!laid_7)&&(strLt r_.key (ei9.key))) then
 (chk (decide (out_2.length+1≤lim)) (m_firthref10_With_j13 l f8 i9 (out_2++[r_]) true))
 else
 (m_firthref10_With_j13 l f8 i9 out_2 laid_7)))
def m_firthref10_With(l:List Rec)(r_:Rec):Option (List Rec):=
 (forI (m_firthref10_With_b10 l r_) (λ(out_2,laid_7)=>
 (bif (!laid_7) then
 (chk (decide (out_2.length+1≤lim)) (some (out_2++[r_])))
 else
 (some out_2))) 0 l ([],(((r_.vers.length:Nat):Int)==0)))
def m_firthref14_Held_b1(f8:List Rec→Option ((List Rec)×Bool))(i9:Nat)(ei9:Rec):List Rec→Option ((List Rec)×Bool):=λout_3=>
 (Option.bind (m_firthref06_RightRec ei9) λz18=>(bif (!z18) then
 (some ([],false))
 else
 (Option.bind (m_firthref10_With out_3 ei9) λz26=>(f8 z26))))
def m_firthref14_Held(l:List Rec):Option ((List Rec)×Bool):=
 (forI (m_firthref14_Held_b1) (λout_3=>
 (some (out_3,true))) 0 l [])
def m_firthref04_Right_b1(f5:Unit→Option Bool)(i6:Nat)(ei6:Int):Unit→Option Bool:=λ_=>
 (bif ((decide (ei6<0))||(decide (4611686018427387904<ei6))) then
 (some false)
 else
 (f5 ()))
def m_firthref04_Right(v_:List Int):Option Bool:=
 (bif ((((v_.length:Nat):Int)==0)||(decide (16<((v_.length:Nat):Int)))) then
 (some false)
 else
 (forI (m_firthref04_Right_b1) (λ_=>
 (some true)) 0 v_ ()))
def m_firthref10_Own_b1(f11:List Ver→Option Rec)(i12:Nat)(ei12:Ver):List Ver→Option Rec:=λx6=>
 (chk (decide (0+(ei12.past).length≤lim)) (chk (decide (x6.length+1≤lim)) (f11 (x6++[ei12]))))
def m_firthref10_Own(r_:Rec):Option Rec:=
 (forI (m_firthref10_Own_b1) (λx6=>
 (some (⟨r_.key,x6⟩:Rec))) 0 r_.vers [])
def m_firthref19_recs_b1(f8:List Rec→Option (List Rec))(i9:Nat)(ei9:Rec):List Rec→Option (List Rec):=λout_3=>
 (Option.bind (m_firthref10_Own ei9) λz18=>(chk (decide (out_3.length+1≤lim)) (f8 (out_3++[z18]))))
def m_firthref19_recs(l:List Rec):Option (List Rec):=
 (forI (m_firthref19_recs_b1) (λout_3=>
 (some out_3)) 0 l [])
def m_firthref19_NewCut(id:Int)(vec:List Int)(list:List Rec):Option ((Option Ofirthref19_Cut)×Int):=
 (Option.bind (m_firthref14_Held list) λz1=>(Option.bind (gcall (!(!z1.2)) (m_firthref04_Right vec)) λz13=>(bif ((!z1.2)||(!z13)) then
 (some (none,1))
 else
 (chk (decide (0+vec.length≤lim)) (Option.bind (m_firthref19_recs z1.1) λz29=>(some ((some (⟨id,(([]:List Int)++vec),z29⟩:Ofirthref19_Cut)),0)))))))
def m_firthlaw19_k: Option (List Rec):=
 (some [(⟨⟨#[107]⟩,[(⟨(⟨1,1⟩:Dot),[],false,⟨#[118]⟩⟩:Ver)]⟩:Rec)])
def m_pull_NewPull(id:Int)(own:List Rec):Option ((Option Opull_Pull)×Int):=
 (Option.bind (m_tree_New own) λz1=>(bif (z1.2 != 0) then
 (some (none,z1.2))
 else
 (Option.bind (m_tree_New []) λz12=>(Option.bind z1.1 λz22=>(Option.bind z12.1 λz25=>(some ((some (⟨id,z22,false,[],[],z25⟩:Opull_Pull)),0)))))))
def m_pull_Pull_Done(p_:Opull_Pull):Option Bool:=
 (some (p_.begun&&(((p_.wants.length:Nat):Int)==0)))
def m_pull_Cut_Vec(c_:Opull_Cut):Option (List Int):=
 (Option.bind (m_slices_Clone_int64_int64 c_.vec) λz2=>(some z2))
def m_tree_at_b1(f8:List Int→Option ((Int×Int×Int)×Bool))(i9:Nat)(ei9:Int):List Int→Option ((Int×Int×Int)×Bool):=λx4=>
 (bif (((decide (1<((i9:Nat):Int)))||(decide (ei9<0)))||(decide (15<ei9))) then
 (some (((gt x4 0),(gt x4 1),(gt x4 2)),false))
 else
 (chk (decide (i9+1<3)) (f8 (List.set x4 (i9+1) ei9))))
def m_tree_at(path:List Int):Option ((Int×Int×Int)×Bool):=
 (forI (m_tree_at_b1) (λx4=>
 (some (((gt x4 0),(gt x4 1),(gt x4 2)),true))) 0 path [((path.length:Nat):Int),0,0])
def m_maps_Copy_map_string_api_Rec_map_string_api_Rec_string_api_Rec_nil_b1(f2:Unit→Option Unit):Unit→Option Unit:=λ_=>
 (some ())
def m_maps_Copy_map_string_api_Rec_map_string_api_Rec_string_api_Rec_nil(dst:List (ByteArray×Rec)):Option Unit:=
 (loopN (m_maps_Copy_map_string_api_Rec_map_string_api_Rec_string_api_Rec_nil_b1) FU ())
def m_maps_Copy_map_string_api_Rec_map_string_api_Rec_string_api_Rec_b1:List (ByteArray×Rec)→(ByteArray×Rec)→Option (List (ByteArray×Rec)):=λm7 en17=>
 (some (mput en17.1 en17.2 m7))
def m_maps_Copy_map_string_api_Rec_map_string_api_Rec_string_api_Rec(dst:List (ByteArray×Rec))(src:List (ByteArray×Rec)):Option (List (ByteArray×Rec)):=
 (Option.bind (fldO (m_maps_Copy_map_string_api_Rec_map_string_api_Rec_string_api_Rec_b1) dst src) (λm26=>
 (some m26)))
def m_tree_Tree_Recs_j21(f26:List (ByteArray×Rec)→Option (List Rec))(m35:List (ByteArray×Rec)):Option (List Rec):=
 (f26 m35)
def m_tree_Tree_Recs_b20(t_:OTree)(path:List Int)(i14:Nat)(f26:List (ByteArray×Rec)→Option (List Rec))(i27:Nat):List (ByteArray×Rec)→Option (List Rec):=λm23=>
 (chk (imp (decide (0<((path.length:Nat):Int))) (decide (0<path.length))) (chk (imp ((!((decide (0<((path.length:Nat):Int)))&&((gt path 0) != ((i14:Nat):Int))))&&(decide (1<((path.length:Nat):Int)))) (decide (1<path.length))) (bif (((decide (0<((path.length:Nat):Int)))&&((gt path 0) != ((i14:Nat):Int)))||((decide (1<((path.length:Nat):Int)))&&((gt path 1) != ((i27:Nat):Int)))) then
 (m_tree_Tree_Recs_j21 f26 m23)
 else
 (optm (gt t_.leaves (0+i14*16+i27*1))
 ((Option.bind (m_maps_Copy_map_string_api_Rec_map_string_api_Rec_string_api_Rec_nil m23) λz62=>(m_tree_Tree_Recs_j21 f26 m23)))
 λes58=>
 (Option.bind (m_maps_Copy_map_string_api_Rec_map_string_api_Rec_string_api_Rec m23 es58) λz68=>(m_tree_Tree_Recs_j21 f26 z68))))))
def m_tree_Tree_Recs_b22(m10:List (ByteArray×Rec))(f94:List Rec→Option (List Rec))(i95:Nat)(ei95:ByteArray):List Rec→Option (List Rec):=λout_89=>
 (Option.bind (m_tree_own ((mget ei95 m10).getD (⟨ByteArray.empty,[]⟩:Rec))) λz108=>(chk (decide (out_89.length+1≤lim)) (f94 (out_89++[z108]))))
def m_tree_Tree_Recs_b16(t_:OTree)(path:List Int)(f13:List (ByteArray×Rec)→Option (List Rec))(i14:Nat):List (ByteArray×Rec)→Option (List Rec):=λm10=>
 (forU (m_tree_Tree_Recs_b20 t_ path i14) (λm23=>
 (f13 m23)) 16 0 m10)
def m_tree_Tree_Recs(t_:OTree)(path:List Int):Option (List Rec):=
 (Option.bind (m_tree_at path) λz1=>(bif (!z1.2) then
 (some [])
 else
 (forU (m_tree_Tree_Recs_b16 t_ path) (λm10=>
 (chk (decide (m10.length≤lim)) (forI (m_tree_Tree_Recs_b22 m10) (λout_89=>
 (some out_89)) 0 (skeys m10) []))) 16 0 ([]:List (ByteArray×Rec)))))
def m_slices_Clone_int_int(s_:List Int):Option (List Int):=
 (nilc s_.isEmpty (
 (some []))
 ((chk (decide (0+s_.length≤lim)) (some (([]:List Int)++s_)))))
def m_tree_Tree_Kids_b1(H:OTree→List Int→Option (OTree×Int))(path:List Int)(f18:(List Int)×OTree→Option (OTree×(List Int)))(i19:Nat):(List Int)×OTree→Option (OTree×(List Int)):=λ(out_10,o15)=>
 (Option.bind (m_slices_Clone_int_int path) λz25=>(chk (decide (z25.length+1≤lim)) (chk (decide ((z25++[((i19:Nat):Int)]).length=path.length+1)) (Option.bind (H o15 (z25++[((i19:Nat):Int)])) λz47=>(chk (decide (out_10.length+1≤lim)) (f18 ((out_10++[z47.2]),z47.1)))))))
def m_tree_Tree_Kids(H:OTree→List Int→Option (OTree×Int))(t_:OTree)(path:List Int):Option (OTree×(List Int)):=
 (Option.bind (m_tree_at path) λz1=>(bif ((!z1.2)||(decide (1<((path.length:Nat):Int)))) then
 (some (t_,[]))
 else
 (forU (m_tree_Tree_Kids_b1 H path) (λ(out_10,o15)=>
 (chk (decide (0<out_10.length)) (some (o15,out_10)))) 16 0 ([],t_))))
def m_num_PutNum_b1(f7:(List UInt8)×Int→Option (List UInt8)):(List UInt8)×Int→Option (List UInt8):=λ(b_1,u_6)=>
 (bif (decide (127<u_6)) then
 (chk (u8b (ior .u8 (wu8 u_6) 128)) (chk (decide (b_1.length+1≤lim)) (f7 ((b_1++[(b8 (ior .u8 (wu8 u_6) 128))]),(ishr .u64 u_6 7)))))
 else
 (chk (decide (b_1.length+1≤lim)) (some (b_1++[(b8 (wu8 u_6))]))))
def m_num_PutNum(n:Int):Option (List UInt8):=
 (loopN (m_num_PutNum_b1) FU ([],(wu64 (max n 0))))
def m_num_PutText(s_:ByteArray):Option (List UInt8):=
 (Option.bind (m_num_PutNum ((s_.size:Nat):Int)) λz1=>(chk (decide (z1.length+s_.size≤lim)) (some (z1++s_.data.toList))))
def m_vers_Mark_b1(f18:List UInt8→Option Int)(i19:Nat)(ei19:Ver):List UInt8→Option Int:=λb_13=>
 (Option.bind (m_num_PutNum (ei19.dot.s)) λz30=>(chk (decide (b_13.length+z30.length≤lim)) (Option.bind (m_num_PutNum (ei19.dot.n)) λz45=>(chk (decide ((b_13++z30).length+z45.length≤lim)) (f18 ((b_13++z30)++z45))))))
def m_vers_Mark(key:ByteArray)(l:List Ver):Option Int:=
 (Option.bind (m_num_PutText key) λz1=>(forI (m_vers_Mark_b1) (λb_13=>
 (Option.bind (m_num_Hash b_13) λz60=>(some z60))) 0 l z1))
def m_tree_halves(b:List UInt8)(h_:Int):Option (List UInt8):=
 (Option.bind (m_num_PutNum (w64 (ishr .u64 h_ 32))) λz1=>(chk (decide (b.length+z1.length≤lim)) (Option.bind (m_num_PutNum (w64 (iand .u64 h_ 4294967295))) λz16=>(chk (decide ((b++z1).length+z16.length≤lim)) (some ((b++z1)++z16))))))
def m_tree_Tree_reckon_b4(f31:(List UInt8)×Bool→Option (OTree×Int))(i32:Nat)(ei32:Rec):(List UInt8)×Bool→Option (OTree×Int):=λ(b_25,some_30)=>
 (Option.bind (m_vers_Mark (ei32.key) (ei32.vers)) λz42=>(chk (u64b z42) (Option.bind (m_tree_halves b_25 z42) λz45=>(f31 (z45,true)))))
def m_tree_Tree_reckon_b5(f85:List UInt8→Option (OTree×Int))(i86:Nat)(ei86:Int):List UInt8→Option (OTree×Int):=λb_80=>
 (Option.bind (m_tree_halves b_80 ei86) λz92=>(f85 z92))
def m_tree_Tree_reckon_j1(b_3:List UInt8)(some_8:Bool)(o9:OTree):Option (OTree×Int):=
 (bif (!some_8) then
 (some (o9,0))
 else
 (Option.bind (m_num_Hash b_3) λz103=>(chk (u64b z103) (some (o9,z103)))))
def m_tree_Tree_reckon(H:OTree→List Int→Option (OTree×Int))(t_:OTree)(path:List Int):Option (OTree×Int):=
 (bif (((path.length:Nat):Int)==2) then
 (Option.bind (m_tree_Tree_Recs t_ path) λz13=>(forI (m_tree_Tree_reckon_b4) (λ(b_25,some_30)=>
 (m_tree_Tree_reckon_j1 b_25 some_30 t_)) 0 z13 ([],false)))
 else
 (Option.bind (m_tree_Tree_Recs t_ path) λz55=>(Option.bind (m_tree_Tree_Kids H t_ path) λz65=>(forI (m_tree_Tree_reckon_b5) (λb_80=>
 (m_tree_Tree_reckon_j1 b_80 (decide (0<((z55.length:Nat):Int))) z65.1)) 0 z65.2 []))))
/-- a place's hash: told, or made -/
def m_hashB(H:OTree→List Int→Option (OTree×Int))(t:OTree)(path:List Int):Option (OTree×Int):=
  (m_tree_at path).bind λk=>bif !k.2 then some (t,0) else
    chk (decide (k.1.1=(path.length:Int))) (chk (i64b k.1.2.1) (chk (i64b k.1.2.2)
    (match mget k.1 t.sums with
    | some h=>some (t,h)
    | none=>(m_tree_Tree_reckon H t path).bind λz=>some (⟨z.1.leaves,z.1.sums++[(k.1,z.2)]⟩,z.2))))
def m_hashN:Nat→OTree→List Int→Option (OTree×Int)
  | 0=>λ_ _=>none
  | n+1=>m_hashB (m_hashN n)
def m_tree_Tree_Hash(t:OTree)(path:List Int):Option (OTree×Int):=m_hashN 3 t path
def m_pull_Cut_Open(c_:Opull_Cut):Option (Opull_Cut×(List Int)):=
 (Option.bind (m_tree_Tree_Kids m_tree_Tree_Hash c_.tree []) λz2=>(some ((⟨c_.id,c_.vec,z2.1⟩:Opull_Cut),z2.2)))
def m_tree_Differ_j5(f14:List Int→Option (List Int))(out_21:List Int):Option (List Int):=
 (f14 out_21)
def m_tree_Differ_b4(a:List Int)(b:List Int)(f14:List Int→Option (List Int))(i15:Nat):List Int→Option (List Int):=λout_9=>
 (bif ((gt (List.take (List.replicate 16 0).length a++List.drop a.length (List.replicate 16 0)) i15) != (gt (List.take (List.replicate 16 0).length b++List.drop b.length (List.replicate 16 0)) i15)) then
 (chk (decide (out_9.length+1≤lim)) (m_tree_Differ_j5 f14 (out_9++[((i15:Nat):Int)])))
 else
 (m_tree_Differ_j5 f14 out_9))
def m_tree_Differ(a:List Int)(b:List Int):Option (List Int):=
 (forU (m_tree_Differ_b4 a b) (λout_9=>
 (some out_9)) 16 0 [])
def m_pull_Pull_Begin_b1(vec:List Int)(f56:Opull_Pull→Option (Opull_Pull×Bool))(i57:Nat)(ei57:Int):Opull_Pull→Option (Opull_Pull×Bool):=λo53=>
 (chk (decide (o53.wants.length+1≤lim)) (f56 (⟨o53.id,o53.own,o53.begun,o53.vec,(o53.wants++[(⟨ei57,(-1)⟩:Dpull_way)]),o53.staged⟩:Opull_Pull)))
def m_pull_Pull_Begin(p_:Opull_Pull)(vec:List Int)(hashes:List Int):Option (Opull_Pull×Bool):=
 (Option.bind (gcall (!p_.begun) (m_vect_Right vec)) λz4=>(bif (p_.begun||(!z4)) then
 (some (p_,false))
 else
 (Option.bind (m_slices_Clone_int64_int64 vec) λz9=>(Option.bind (m_tree_Tree_Kids m_tree_Tree_Hash p_.own []) λz19=>(Option.bind (m_tree_Differ z19.2 hashes) λz37=>(forI (m_pull_Pull_Begin_b1 vec) (λo53=>
 (some (o53,true))) 0 z37 (⟨p_.id,z19.1,true,z9,p_.wants,p_.staged⟩:Opull_Pull)))))))
def m_pull_way_path(w_:Dpull_way):Option (List Int):=
 (bif (decide (w_.a1<0)) then
 (some [w_.a0])
 else
 (some [w_.a0,w_.a1]))
def m_pull_Pull_Wants_b1(f9:List (List Int)→Option (List (List Int)))(i10:Nat)(ei10:Dpull_way):List (List Int)→Option (List (List Int)):=λout_4=>
 (Option.bind (m_pull_way_path ei10) λz17=>(Option.bind (m_slices_Clone_int_int z17) λz27=>(chk (decide (out_4.length+1≤lim)) (f9 (out_4++[z27])))))
def m_pull_Pull_Wants(p_:Opull_Pull):Option (List (List Int)):=
 (forI (m_pull_Pull_Wants_b1) (λout_4=>
 (some out_4)) 0 p_.wants [])
def m_pull_Cut_Want_1(d:Int):Option Bool:=
 (some ((decide (d<0))||(decide (15<d))))
def m_slices_IndexFunc_int_int_b1(f1:Unit→Option Int)(i2:Nat)(ei2:Int):Unit→Option Int:=λ_=>
 (Option.bind (m_pull_Cut_Want_1 ei2) λz8=>(bif z8 then
 (some ((i2:Nat):Int))
 else
 (f1 ())))
def m_slices_IndexFunc_int_int(s_:List Int):Option Int:=
 (forI (m_slices_IndexFunc_int_int_b1) (λ_=>
 (some (-1))) 0 s_ ())
def m_slices_ContainsFunc_int_int(s_:List Int):Option Bool:=
 (Option.bind (m_slices_IndexFunc_int_int s_) λz1=>(some (decide (0≤z1))))
def m_pull_Cut_Want(c_:Opull_Cut)(path:List Int):Option (Opull_Cut×(List Int)×(List Rec)×Bool):=
 (Option.bind (m_slices_ContainsFunc_int_int path) λz1=>(bif z1 then
 (some (c_,[],[],false))
 else
 (bif (((path.length:Nat):Int)==1) then
 (Option.bind (m_tree_Tree_Kids m_tree_Tree_Hash c_.tree path) λz6=>(some ((⟨c_.id,c_.vec,z6.1⟩:Opull_Cut),z6.2,[],true)))
 else
 (bif (((path.length:Nat):Int)==2) then
 (Option.bind (m_tree_Tree_Recs c_.tree path) λz22=>(some (c_,[],z22,true)))
 else
 (some (c_,[],[],false))))))
def m_pull_Pull_Tell_1(d:Int):Option Bool:=
 (some (decide (d<0)))
def m_slices_IndexFunc_int_int_s1_b1(f1:Unit→Option Int)(i2:Nat)(ei2:Int):Unit→Option Int:=λ_=>
 (Option.bind (m_pull_Pull_Tell_1 ei2) λz8=>(bif z8 then
 (some ((i2:Nat):Int))
 else
 (f1 ())))
def m_slices_IndexFunc_int_int_s1(s_:List Int):Option Int:=
 (forI (m_slices_IndexFunc_int_int_s1_b1) (λ_=>
 (some (-1))) 0 s_ ())
def m_slices_ContainsFunc_int_int_s1(s_:List Int):Option Bool:=
 (Option.bind (m_slices_IndexFunc_int_int_s1 s_) λz1=>(some (decide (0≤z1))))
def m_slices_Index_pull_way_pull_way_b1(v_:Dpull_way)(f2:Unit→Option Int)(i3:Nat)(ei3:Dpull_way):Unit→Option Int:=λ_=>
 (bif (v_==ei3) then
 (some ((i3:Nat):Int))
 else
 (f2 ()))
def m_slices_Index_pull_way_pull_way(s_:List Dpull_way)(v_:Dpull_way):Option Int:=
 (forI (m_slices_Index_pull_way_pull_way_b1 v_) (λ_=>
 (some (-1))) 0 s_ ())
def m_slices_Delete_pull_way_pull_way(s_:List Dpull_way)(i_:Int)(j:Int):Option (List Dpull_way):=
 (chk (inle i_ s_.length) (chk (inle j s_.length) (chk (decide (i_.toNat≤j.toNat)) (bif (i_==j) then
 (some s_)
 else
 (chk (decide ((List.take i_.toNat s_++List.drop j.toNat s_).length≤s_.length)) (some (List.take i_.toNat s_++List.drop j.toNat s_)))))))
def m_slices_Equal_int_int_b1(s2:List Int)(f2:Unit→Option Bool)(i3:Nat)(ei3:Int):Unit→Option Bool:=λ_=>
 (chk (decide (i3<s2.length)) (bif (ei3 != (gt s2 i3)) then
 (some false)
 else
 (f2 ())))
def m_slices_Equal_int_int(s1:List Int)(s2:List Int):Option Bool:=
 (bif (((s1.length:Nat):Int) != ((s2.length:Nat):Int)) then
 (some false)
 else
 (forI (m_slices_Equal_int_int_b1 s2) (λ_=>
 (some true)) 0 s1 ()))
def m_pull_way_beneath(w_:Dpull_way)(r_:Rec):Option Bool:=
 (Option.bind (m_code_RightRec r_) λz4=>(bif z4 then
 (Option.bind (m_tree_Place r_.key) λz10=>(Option.bind (m_pull_way_path w_) λz20=>(Option.bind (gcall z4 (m_slices_Equal_int_int z10 z20)) λz31=>(some z31))))
 else
 (some false)))
def m_pull_Pull_Tell_2(r_:Rec)(b0v0:Int)(b0v1:Int):Option Bool:=
 (Option.bind (m_pull_way_beneath (⟨b0v0,b0v1⟩:Dpull_way) r_) λz2=>(some (!z2)))
def m_slices_IndexFunc_api_Rec_api_Rec_b1(f_0v0:Int)(f_0v1:Int)(f3:Unit→Option Int)(i4:Nat)(ei4:Rec):Unit→Option Int:=λ_=>
 (Option.bind (m_pull_Pull_Tell_2 ei4 f_0v0 f_0v1) λz13=>(bif z13 then
 (some ((i4:Nat):Int))
 else
 (f3 ())))
def m_slices_IndexFunc_api_Rec_api_Rec(s_:List Rec)(f_0v0:Int)(f_0v1:Int):Option Int:=
 (forI (m_slices_IndexFunc_api_Rec_api_Rec_b1 f_0v0 f_0v1) (λ_=>
 (some (-1))) 0 s_ ())
def m_slices_ContainsFunc_api_Rec_api_Rec(s_:List Rec)(f_0v0:Int)(f_0v1:Int):Option Bool:=
 (Option.bind (m_slices_IndexFunc_api_Rec_api_Rec s_ f_0v0 f_0v1) λz1=>(some (decide (0≤z1))))
def m_pull_Pull_Tell_b1(path:List Int)(f68:Opull_Pull→Option (Opull_Pull×Bool))(i69:Nat)(ei69:Int):Opull_Pull→Option (Opull_Pull×Bool):=λo65=>
 (chk (decide (o65.wants.length+1≤lim)) (f68 (⟨o65.id,o65.own,o65.begun,o65.vec,(o65.wants++[(⟨(gt (List.take [(-1),(-1)].length path++List.drop path.length [(-1),(-1)]) 0),ei69⟩:Dpull_way)]),o65.staged⟩:Opull_Pull)))
def m_pull_Pull_Tell_b2(f112:Opull_Pull→Option (Opull_Pull×Bool))(i113:Nat)(ei113:Rec):Opull_Pull→Option (Opull_Pull×Bool):=λo109=>
 (Option.bind (m_tree_Tree_Set o109.staged ei113) λz125=>(f112 (⟨o109.id,o109.own,o109.begun,o109.vec,o109.wants,z125.1⟩:Opull_Pull)))
def m_pull_Pull_Tell(p_:Opull_Pull)(path:List Int)(hashes:List Int)(list:List Rec):Option (Opull_Pull×Bool):=
 (Option.bind (gcall (!(decide (2<((path.length:Nat):Int)))) (m_slices_ContainsFunc_int_int_s1 path)) λz4=>(bif ((decide (2<((path.length:Nat):Int)))||z4) then
 (some (p_,false))
 else
 (Option.bind (m_slices_Index_pull_way_pull_way p_.wants (⟨(gt (List.take [(-1),(-1)].length path++List.drop path.length [(-1),(-1)]) 0),(gt (List.take [(-1),(-1)].length path++List.drop path.length [(-1),(-1)]) 1)⟩:Dpull_way)) λz12=>(bif (decide (z12<0)) then
 (some (p_,false))
 else
 (bif (decide ((gt (List.take [(-1),(-1)].length path++List.drop path.length [(-1),(-1)]) 1)<0)) then
 (chk (i64b z12) (Option.bind (m_slices_Delete_pull_way_pull_way p_.wants z12 (w64 (z12+1))) λz18=>(Option.bind (m_tree_Tree_Kids m_tree_Tree_Hash p_.own [(gt (List.take [(-1),(-1)].length path++List.drop path.length [(-1),(-1)]) 0)]) λz36=>(Option.bind (m_tree_Differ z36.2 hashes) λz54=>(forI (m_pull_Pull_Tell_b1 path) (λo65=>
 (some (o65,true))) 0 z54 (⟨p_.id,z36.1,p_.begun,p_.vec,z18,p_.staged⟩:Opull_Pull))))))
 else
 (Option.bind (m_slices_ContainsFunc_api_Rec_api_Rec list (gt (List.take [(-1),(-1)].length path++List.drop path.length [(-1),(-1)]) 0) (gt (List.take [(-1),(-1)].length path++List.drop path.length [(-1),(-1)]) 1)) λz87=>(bif z87 then
 (some (p_,false))
 else
 (chk (i64b z12) (Option.bind (m_slices_Delete_pull_way_pull_way p_.wants z12 (w64 (z12+1))) λz96=>(forI (m_pull_Pull_Tell_b2) (λo109=>
 (some (o109,true))) 0 list (⟨p_.id,p_.own,p_.begun,p_.vec,z96,p_.staged⟩:Opull_Pull)))))))))))
def m_firthlaw19_told_j5(o3:Opull_Cut)(o6:Opull_Pull)(f9:Opull_Cut×Opull_Pull→Option (Opull_Cut×Opull_Pull×Bool))(z16:List (List Int))(at_27:Int):Option (Opull_Cut×Opull_Pull×Bool):=
 (chk (inb at_27 z16.length) (Option.bind (m_pull_Cut_Want o3 (gt z16 at_27.toNat)) λz36=>(bif (!(!z36.2.2.2)) then
 (Option.bind (m_pull_Pull_Tell o6 (gt z16 at_27.toNat) z36.2.1 z36.2.2.1) λz70=>(bif (!z70.2) then
 (some (z36.1,z70.1,false))
 else
 (f9 (z36.1,z70.1))))
 else
 (some (z36.1,o6,false)))))
def m_firthlaw19_told_b4(order:List Int)(f9:Opull_Cut×Opull_Pull→Option (Opull_Cut×Opull_Pull×Bool))(i10:Nat):Opull_Cut×Opull_Pull→Option (Opull_Cut×Opull_Pull×Bool):=λ(o3,o6)=>
 (Option.bind (m_pull_Pull_Wants o6) λz16=>(bif (((z16.length:Nat):Int)==0) then
 (some (o3,o6,true))
 else
 (bif (decide (((i10:Nat):Int)<((order.length:Nat):Int))) then
 (chk (decide (i10<order.length)) (chk ((wu64 ((z16.length:Nat):Int)) != 0) (m_firthlaw19_told_j5 o3 o6 f9 z16 (w64 ((wu64 (gt order i10)).tmod (wu64 ((z16.length:Nat):Int)))))))
 else
 (m_firthlaw19_told_j5 o3 o6 f9 z16 0))))
def m_firthlaw19_told(c_:Opull_Cut)(p_:Opull_Pull)(order:List Int):Option (Opull_Cut×Opull_Pull×Bool):=
 (forU (m_firthlaw19_told_b4 order) (λ(o3,o6)=>
 (some (o3,o6,false))) 300 0 (c_,p_))
def m_pull_Cut_Id(c_:Opull_Cut):Option Int:=
 (some c_.id)
def m_pull_Pull_Id(p_:Opull_Pull):Option Int:=
 (some p_.id)
def m_pull_Pull_Staged(p_:Opull_Pull):Option (List Rec):=
 (Option.bind (m_tree_Tree_Recs p_.staged []) λz2=>(some z2))
def m_firthref03_Same_b1(b:List Span)(f2:Unit→Option Bool)(i3:Nat)(ei3:Span):Unit→Option Bool:=λ_=>
 (chk (decide (i3<b.length)) (bif (ei3 != (gt b i3)) then
 (some false)
 else
 (f2 ())))
def m_firthref03_Same(a:List Span)(b:List Span):Option Bool:=
 (bif (((a.length:Nat):Int) != ((b.length:Nat):Int)) then
 (some false)
 else
 (forI (m_firthref03_Same_b1 b) (λ_=>
 (some true)) 0 a ()))
def m_firthref05_SameOne(a:Ver)(b:Ver):Option Bool:=
 (Option.bind (gcall (((a.dot==b.dot)&&(a.gone==b.gone))&&(a.val==b.val)) (m_firthref03_Same a.past b.past)) λz18=>(some ((((a.dot==b.dot)&&(a.gone==b.gone))&&(a.val==b.val))&&z18)))
def m_firthref05_Same_b1(b:List Ver)(f2:Unit→Option Bool)(i3:Nat)(ei3:Ver):Unit→Option Bool:=λ_=>
 (chk (decide (i3<b.length)) (Option.bind (m_firthref05_SameOne ei3 (gt b i3)) λz16=>(bif (!z16) then
 (some false)
 else
 (f2 ()))))
def m_firthref05_Same(a:List Ver)(b:List Ver):Option Bool:=
 (bif (((a.length:Nat):Int) != ((b.length:Nat):Int)) then
 (some false)
 else
 (forI (m_firthref05_Same_b1 b) (λ_=>
 (some true)) 0 a ()))
def m_firthref06_SameRecs_b1(b:List Rec)(f2:Unit→Option Bool)(i3:Nat)(ei3:Rec):Unit→Option Bool:=λ_=>
 (chk (decide (i3<b.length)) (Option.bind (gcall (!(ei3.key != (gt b i3).key)) (m_firthref05_Same (ei3.vers) ((gt b i3).vers))) λz27=>(bif ((ei3.key != (gt b i3).key)||(!z27)) then
 (some false)
 else
 (f2 ()))))
def m_firthref06_SameRecs(a:List Rec)(b:List Rec):Option Bool:=
 (bif (((a.length:Nat):Int) != ((b.length:Nat):Int)) then
 (some false)
 else
 (forI (m_firthref06_SameRecs_b1 b) (λ_=>
 (some true)) 0 a ()))
def m_pull_Pull_Vec(p_:Opull_Pull):Option (List Int):=
 (Option.bind (m_slices_Clone_int64_int64 p_.vec) λz2=>(some z2))
def m_firthref04_Same_b1(b:List Int)(f2:Unit→Option Bool)(i3:Nat)(ei3:Int):Unit→Option Bool:=λ_=>
 (chk (decide (i3<b.length)) (bif (ei3 != (gt b i3)) then
 (some false)
 else
 (f2 ())))
def m_firthref04_Same(a:List Int)(b:List Int):Option Bool:=
 (bif (((a.length:Nat):Int) != ((b.length:Nat):Int)) then
 (some false)
 else
 (forI (m_firthref04_Same_b1 b) (λ_=>
 (some true)) 0 a ()))
def m_firthlaw19_awake: Option Bool:=
 (Option.bind (m_firthlaw19_k) λz2=>(Option.bind (m_pull_NewCut 3 [1] z2) λz23=>(Option.bind (m_pull_NewPull 4 []) λz33=>(bif (!((((Option.isNone z23.1)||(Option.isNone z33.1))||(z23.2 != 0))||(z33.2 != 0))) then
 (Option.bind z33.1 λz51=>(Option.bind z23.1 λz54=>(Option.bind (m_pull_Pull_Done z51) λz57=>(bif (!z57) then
 (Option.bind (m_pull_Cut_Vec z54) λz62=>(Option.bind (m_pull_Cut_Open z54) λz72=>(Option.bind (m_pull_Pull_Begin z51 z62 z72.2) λz94=>(bif (!(!z94.2)) then
 (Option.bind (m_pull_Cut_Vec z72.1) λz105=>(Option.bind (m_pull_Cut_Open z72.1) λz115=>(Option.bind (m_pull_Pull_Begin z94.1 z105 z115.2) λz137=>(bif (!z137.2) then
 (Option.bind (m_pull_Pull_Wants z137.1) λz147=>(bif (((z147.length:Nat):Int) != 1) then
 (some false)
 else
 (Option.bind (m_firthlaw19_told z115.1 z137.1 []) λz158=>(Option.bind (gcall z158.2.2 (m_pull_Pull_Done z158.2.1)) λz170=>(Option.bind (gcall (z158.2.2&&z170) (m_pull_Cut_Id z158.1)) λz174=>(Option.bind (gcall ((z158.2.2&&z170)&&(z174==3)) (m_pull_Pull_Id z158.2.1)) λz179=>(bif (((z158.2.2&&z170)&&(z174==3))&&(z179==4)) then
 (Option.bind (m_pull_Pull_Staged z158.2.1) λz184=>(Option.bind (m_firthlaw19_k) λz194=>(Option.bind (m_firthref06_SameRecs z184 z194) λz204=>(bif z204 then
 (Option.bind (m_pull_Pull_Vec z158.2.1) λz208=>(Option.bind (m_firthref04_Same z208 [1]) λz220=>(some z220)))
 else
 (some false)))))
 else
 (some false))))))))
 else
 (some false)))))
 else
 (some false)))))
 else
 (some false)))))
 else
 (some false)))))
def m_firthref11_Path_b1(f1:Unit→Option Bool)(i2:Nat)(ei2:Int):Unit→Option Bool:=λ_=>
 (bif ((decide (ei2<0))||(decide (15<ei2))) then
 (some false)
 else
 (f1 ()))
def m_firthref11_Path(path:List Int):Option Bool:=
 (forI (m_firthref11_Path_b1) (λ_=>
 (some (decide (((path.length:Nat):Int)≤2)))) 0 path ())
def m_firthref11_longer(path:List Int)(d:Int):Option (List Int):=
 (chk (decide (0+path.length≤lim)) (chk (decide (path.length+1≤lim)) (some (path++[d]))))
/-- what is asked of whoever answers for firth/firthref11.Hash -/
def C_firthref11_Hash(H:List Rec→List Int→Option Int):Prop := ∀{Γ:Gh} {w0:World} {Aall:Option Addr} {call:Nat} {all:List Rec} (hall:Sl recT Γ Aall all) (hallc:all.length≤call) {Apath:Option Addr} {cpath:Nat} {path:List Int} (hpath:Sl intT Γ Apath path) (hpathc:path.length≤cpath) (hs:Sat Γ w0) {r:Int} (h:H all path=some r),Calls Tryz.prog 56 #[.slice Aall all.length call,.slice Apath path.length cpath] w0 (λe w'=>e = .returned (.int .u64 r)∧Fr no w0 w')
def m_firthref01_Hash_b1(f3:Int→Option Int)(i4:Nat)(ei4:UInt8):Int→Option Int:=λh_1=>
 (f3 (wu64 ((ixor .u64 h_1 (wu64 ((ei4.toNat:Nat):Int)))*1099511628211)))
def m_firthref01_Hash(b:List UInt8):Option Int:=
 (forI (m_firthref01_Hash_b1) (λh_1=>
 (some (ixor .u64 (wu64 ((ixor .u64 h_1 (wu64 (h_1.tdiv 8589934592)))*18397679294719823053)) (wu64 ((wu64 ((ixor .u64 h_1 (wu64 (h_1.tdiv 8589934592)))*18397679294719823053)).tdiv 8589934592))))) 0 b 14695981039346656037)
def m_firthref11_Place(key:ByteArray):Option (List Int):=
 (Option.bind (m_firthref01_Hash (key.data.toList)) λz7=>(some [(w64 (wu64 (z7.tdiv 1152921504606846976))),(w64 ((wu64 (z7.tdiv 72057594037927936)).tmod 16))]))
def m_firthref11_Recs_b13(z30:List Int)(f41:Bool→Option (List Rec))(i42:Nat)(ei42:Int):Bool→Option (List Rec):=λin_40=>
 (chk (imp in_40 (decide (i42<z30.length))) (f41 (in_40&&((gt z30 i42)==ei42))))
def m_firthref11_Recs_j11(i_8:Int)(f10:(List Rec)×Int→Option (List Rec))(out_21:List Rec):Option (List Rec):=
 (f10 (out_21,(w64 (i_8+1))))
def m_firthref11_Recs_b10(all:List Rec)(path:List Int)(f10:(List Rec)×Int→Option (List Rec)):(List Rec)×Int→Option (List Rec):=λ(out_3,i_8)=>
 (Option.bind (gcall (decide (i_8<((all.length:Nat):Int))) (m_firthref11_Path path)) λz16=>(bif ((decide (i_8<((all.length:Nat):Int)))&&z16) then
 (chk (inb i_8 all.length) (Option.bind (m_firthref11_Place ((gt all i_8.toNat).key)) λz30=>(forI (m_firthref11_Recs_b13 z30) (λin_40=>
 (bif in_40 then
 (chk (decide (out_3.length+1≤lim)) (m_firthref11_Recs_j11 i_8 f10 (out_3++[(gt all i_8.toNat)])))
 else
 (m_firthref11_Recs_j11 i_8 f10 out_3))) 0 path true)))
 else
 (some out_3)))
def m_firthref11_Recs(all:List Rec)(path:List Int):Option (List Rec):=
 (loopN (m_firthref11_Recs_b10 all path) FU ([],0))
def m_firthref01_PutNum_b2(f11:Int×(List UInt8)→Option (List UInt8)):Int×(List UInt8)→Option (List UInt8):=λ(n_4,b_6)=>
 (bif (decide (128≤n_4)) then
 (chk (decide (b_6.length+1≤lim)) (f11 ((w64 (n_4.tdiv 128)),(b_6++[(b8 (wu8 (w64 ((n_4.tmod 128)+128))))]))))
 else
 (chk (decide (b_6.length+1≤lim)) (some (b_6++[(b8 (wu8 n_4))]))))
def m_firthref01_PutNum_j1(n_1:Int):Option (List UInt8):=
 (loopN (m_firthref01_PutNum_b2) FU (n_1,[]))
def m_firthref01_PutNum(n:Int):Option (List UInt8):=
 (bif (decide (n<0)) then
 (m_firthref01_PutNum_j1 0)
 else
 (m_firthref01_PutNum_j1 n))
def m_firthref01_PutText_b1(s_:ByteArray)(f16:List UInt8→Option (List UInt8))(i17:Nat):List UInt8→Option (List UInt8):=λb_11=>
 (chk (decide (b_11.length+1≤lim)) (f16 (b_11++[(gt s_.data.toList i17)])))
def m_firthref01_PutText(s_:ByteArray):Option (List UInt8):=
 (Option.bind (m_firthref01_PutNum ((s_.size:Nat):Int)) λz1=>(forU (m_firthref01_PutText_b1 s_) (λb_11=>
 (some b_11)) s_.size 0 z1))
def m_firthref05_Mark_b1(f18:List UInt8→Option Int)(i19:Nat)(ei19:Ver):List UInt8→Option Int:=λb_13=>
 (Option.bind (m_firthref01_PutNum (ei19.dot.s)) λz28=>(chk (decide (b_13.length+z28.length≤lim)) (Option.bind (m_firthref01_PutNum (ei19.dot.n)) λz43=>(chk (decide ((b_13++z28).length+z43.length≤lim)) (f18 ((b_13++z28)++z43))))))
def m_firthref05_Mark(key:ByteArray)(l:List Ver):Option Int:=
 (Option.bind (m_firthref01_PutText key) λz1=>(forI (m_firthref05_Mark_b1) (λb_13=>
 (Option.bind (m_firthref01_Hash b_13) λz58=>(some z58))) 0 l z1))
def m_firthref11_halves(b:List UInt8)(h_:Int):Option (List UInt8):=
 (Option.bind (m_firthref01_PutNum (w64 (wu64 (h_.tdiv 4294967296)))) λz1=>(chk (decide (b.length+z1.length≤lim)) (Option.bind (m_firthref01_PutNum (w64 (h_.tmod 4294967296))) λz16=>(chk (decide ((b++z1).length+z16.length≤lim)) (some ((b++z1)++z16))))))
def m_firthref11_Text_b1(f19:List UInt8→Option (List UInt8))(i20:Nat)(ei20:Rec):List UInt8→Option (List UInt8):=λb_14=>
 (Option.bind (m_firthref05_Mark (ei20.key) (ei20.vers)) λz30=>(chk (u64b z30) (Option.bind (m_firthref11_halves b_14 z30) λz33=>(f19 z33))))
def m_firthref11_Text_b2(H:List Rec→List Int→Option Int)(path:List Int)(z1:List Rec)(f50:List UInt8→Option (List UInt8))(i51:Nat):List UInt8→Option (List UInt8):=λb_45=>
 (Option.bind (m_firthref11_longer path ((i51:Nat):Int)) λz57=>(Option.bind (H z1 z57) λz67=>(chk (u64b z67) (Option.bind (m_firthref11_halves b_45 z67) λz70=>(f50 z70)))))
def m_firthref11_Text(H:List Rec→List Int→Option Int)(all:List Rec)(path:List Int):Option (List UInt8):=
 (Option.bind (m_firthref11_Recs all path) λz1=>(bif (((path.length:Nat):Int)==2) then
 (forI (m_firthref11_Text_b1) (λb_14=>
 (some b_14)) 0 z1 [])
 else
 (forU (m_firthref11_Text_b2 H path z1) (λb_45=>
 (some b_45)) 16 0 [])))
def m_firthref11_Hash_o(H:List Rec→List Int→Option Int)(all:List Rec)(path:List Int):Option Int:=
 (Option.bind (m_firthref11_Path path) λz1=>(bif (!(!z1)) then
 (Option.bind (m_firthref11_Recs all path) λz6=>(bif (((z6.length:Nat):Int)==0) then
 (some 0)
 else
 (Option.bind (m_firthref11_Text H all path) λz17=>(Option.bind (m_firthref01_Hash z17) λz27=>(some z27)))))
 else
 (some 0)))
def m_firthref11_Hash_n:Nat→List Rec→List Int→Option Int
  | 0=>λ_ _=>none
  | n+1=>m_firthref11_Hash_o (m_firthref11_Hash_n n)
def m_firthref11_Hash(all:List Rec)(path:List Int):Option Int:=m_firthref11_Hash_n 3 all path
def m_firthref11_Kids_b1(all:List Rec)(path:List Int)(f10:(List Int)×Int→Option (List Int)):(List Int)×Int→Option (List Int):=λ(out_3,d_8)=>
 (Option.bind (gcall (decide (d_8<16)) (m_firthref11_Path path)) λz16=>(bif (((decide (d_8<16))&&z16)&&(decide (((path.length:Nat):Int)<2))) then
 (Option.bind (m_firthref11_longer path d_8) λz22=>(Option.bind (m_firthref11_Hash all z22) λz32=>(chk (u64b z32) (chk (decide (out_3.length+1≤lim)) (f10 ((out_3++[z32]),(w64 (d_8+1))))))))
 else
 (some out_3)))
def m_firthref11_Kids(all:List Rec)(path:List Int):Option (List Int):=
 (loopN (m_firthref11_Kids_b1 all path) FU ([],0))
def m_firthref19_Cut_Want(c_:Ofirthref19_Cut)(path:List Int):Option ((List Int)×(List Rec)×Bool):=
 (Option.bind (m_firthref11_Path path) λz1=>(bif ((!z1)||(((path.length:Nat):Int)==0)) then
 (some ([],[],false))
 else
 (bif (((path.length:Nat):Int)==1) then
 (Option.bind (m_firthref11_Kids c_.all path) λz9=>(some (z9,[],true)))
 else
 (Option.bind (m_firthref11_Recs c_.all path) λz21=>(some ([],z21,true))))))
def m_firthref19_NewPull(id:Int)(own:List Rec):Option ((Option Ofirthref19_Pull)×Int):=
 (Option.bind (m_firthref14_Held own) λz1=>(bif (!z1.2) then
 (some (none,1))
 else
 (Option.bind (m_firthref19_recs z1.1) λz17=>(some ((some (⟨id,z17,false,[],[],[]⟩:Ofirthref19_Pull)),0)))))
def m_firthref11_at(l:List Int)(i_:Int):Option Int:=
 (bif (decide (i_<((l.length:Nat):Int))) then
 (chk (inb i_ l.length) (some (gt l i_.toNat)))
 else
 (some 0))
def m_firthref11_Differ_j5(f6:List Int→Option (List Int))(out_13:List Int):Option (List Int):=
 (f6 out_13)
def m_firthref11_Differ_b4(a:List Int)(b:List Int)(f6:List Int→Option (List Int))(i7:Nat):List Int→Option (List Int):=λout_1=>
 (Option.bind (m_firthref11_at a ((i7:Nat):Int)) λz18=>(Option.bind (m_firthref11_at b ((i7:Nat):Int)) λz20=>(bif (z18 != z20) then
 (chk (decide (out_1.length+1≤lim)) (m_firthref11_Differ_j5 f6 (out_1++[((i7:Nat):Int)])))
 else
 (m_firthref11_Differ_j5 f6 out_1))))
def m_firthref11_Differ(a:List Int)(b:List Int):Option (List Int):=
 (forU (m_firthref11_Differ_b4 a b) (λout_1=>
 (some out_1)) 16 0 [])
def m_firthref19_Pull_Begin_b1(vec:List Int)(f45:Ofirthref19_Pull→Option (Ofirthref19_Pull×Bool))(i46:Nat)(ei46:Int):Ofirthref19_Pull→Option (Ofirthref19_Pull×Bool):=λo42=>
 (chk (decide (o42.paths.length+1≤lim)) (f45 (⟨o42.id,o42.own,o42.begun,o42.vec,(o42.paths++[[ei46]]),o42.in_⟩:Ofirthref19_Pull)))
def m_firthref19_Pull_Begin(p_:Ofirthref19_Pull)(vec:List Int)(hashes:List Int):Option (Ofirthref19_Pull×Bool):=
 (Option.bind (gcall (!p_.begun) (m_firthref04_Right vec)) λz4=>(bif (p_.begun||(!z4)) then
 (some (p_,false))
 else
 (chk (decide (p_.vec.length+vec.length≤lim)) (Option.bind (m_firthref11_Kids p_.own []) λz14=>(Option.bind (m_firthref11_Differ z14 hashes) λz29=>(forI (m_firthref19_Pull_Begin_b1 vec) (λo42=>
 (some (o42,true))) 0 z29 (⟨p_.id,p_.own,true,(p_.vec++vec),p_.paths,p_.in_⟩:Ofirthref19_Pull)))))))
def m_firthref06_Ints_b1(b:List Int)(f2:Unit→Option Bool)(i3:Nat)(ei3:Int):Unit→Option Bool:=λ_=>
 (chk (decide (i3<b.length)) (bif (ei3 != (gt b i3)) then
 (some false)
 else
 (f2 ())))
def m_firthref06_Ints(a:List Int)(b:List Int):Option Bool:=
 (bif (((a.length:Nat):Int) != ((b.length:Nat):Int)) then
 (some false)
 else
 (forI (m_firthref06_Ints_b1 b) (λ_=>
 (some true)) 0 a ()))
def m_firthref19_Pull_Tell_j5(f3:Int→Option (Ofirthref19_Pull×Bool))(at_12:Int):Option (Ofirthref19_Pull×Bool):=
 (f3 at_12)
def m_firthref19_Pull_Tell_b9(path:List Int)(f121:List (List Int)→Option (Ofirthref19_Pull×Bool))(i122:Nat)(ei122:Int):List (List Int)→Option (Ofirthref19_Pull×Bool):=λleft_116=>
 (chk (decide (0<path.length)) (chk (decide (left_116.length+1≤lim)) (f121 (left_116++[[(gt path 0),ei122]]))))
def m_firthref19_Pull_Tell_b10(path:List Int)(list:List Rec)(f151:Int×Ofirthref19_Pull→Option (Ofirthref19_Pull×Bool)):Int×Ofirthref19_Pull→Option (Ofirthref19_Pull×Bool):=λ(i_146,o148)=>
 (bif ((decide (i_146<((list.length:Nat):Int)))&&(((path.length:Nat):Int)==2)) then
 (chk (inb i_146 list.length) (Option.bind (m_firthref10_Own (gt list i_146.toNat)) λz164=>(Option.bind (m_firthref10_With o148.in_ z164) λz174=>(f151 ((w64 (i_146+1)),(⟨o148.id,o148.own,o148.begun,o148.vec,o148.paths,z174⟩:Ofirthref19_Pull))))))
 else
 (some (o148,true)))
def m_firthref19_Pull_Tell_j7(p_:Ofirthref19_Pull)(path:List Int)(list:List Rec)(left_83:List (List Int)):Option (Ofirthref19_Pull×Bool):=
 (loopN (m_firthref19_Pull_Tell_b10 path list) FU (0,(⟨p_.id,p_.own,p_.begun,p_.vec,left_83,p_.in_⟩:Ofirthref19_Pull)))
def m_firthref19_Pull_Tell_b6(p_:Ofirthref19_Pull)(path:List Int)(hashes:List Int)(list:List Rec)(at_1:Int)(f30:Int→Option (Ofirthref19_Pull×Bool)):Int→Option (Ofirthref19_Pull×Bool):=λi_28=>
 (bif ((decide (i_28<((list.length:Nat):Int)))&&(((path.length:Nat):Int)==2)) then
 (chk (inb i_28 list.length) (Option.bind (m_firthref06_RightRec (gt list i_28.toNat)) λz42=>(bif (!(!z42)) then
 (Option.bind (m_firthref11_Place ((gt list i_28.toNat).key)) λz50=>(Option.bind (m_firthref06_Ints z50 path) λz60=>(bif (!z60) then
 (some (p_,false))
 else
 (f30 (w64 (i_28+1))))))
 else
 (some (p_,false)))))
 else
 (chk (inle at_1 p_.paths.length) (chk (decide (0+(List.take at_1.toNat p_.paths).length≤lim)) (chk (inle (w64 (at_1+1)) p_.paths.length) (chk (decide ((List.take at_1.toNat p_.paths).length+(List.drop ((w64 (at_1+1)).toNat) p_.paths).length≤lim)) (bif (((path.length:Nat):Int)==1) then
 (Option.bind (m_firthref11_Kids p_.own path) λz89=>(Option.bind (m_firthref11_Differ z89 hashes) λz104=>(forI (m_firthref19_Pull_Tell_b9 path) (λleft_116=>
 (m_firthref19_Pull_Tell_j7 p_ path list left_116)) 0 z104 ((List.take at_1.toNat p_.paths)++(List.drop ((w64 (at_1+1)).toNat) p_.paths)))))
 else
 (m_firthref19_Pull_Tell_j7 p_ path list ((List.take at_1.toNat p_.paths)++(List.drop ((w64 (at_1+1)).toNat) p_.paths)))))))))
def m_firthref19_Pull_Tell_b4(path:List Int)(f3:Int→Option (Ofirthref19_Pull×Bool))(i4:Nat)(ei4:(List Int)):Int→Option (Ofirthref19_Pull×Bool):=λat_1=>
 (Option.bind (m_firthref06_Ints ei4 path) λz18=>(bif z18 then
 (m_firthref19_Pull_Tell_j5 f3 ((i4:Nat):Int))
 else
 (m_firthref19_Pull_Tell_j5 f3 at_1)))
def m_firthref19_Pull_Tell(p_:Ofirthref19_Pull)(path:List Int)(hashes:List Int)(list:List Rec):Option (Ofirthref19_Pull×Bool):=
 (forI (m_firthref19_Pull_Tell_b4 path) (λat_1=>
 (bif (decide (at_1<0)) then
 (some (p_,false))
 else
 (loopN (m_firthref19_Pull_Tell_b6 p_ path hashes list at_1) FU 0))) 0 p_.paths (-1))
def m_firthref19_Pull_Done(p_:Ofirthref19_Pull):Option Bool:=
 (some (p_.begun&&(((p_.paths.length:Nat):Int)==0)))
def m_firthlaw19_paths_b1(b:List (List Int))(f2:Unit→Option Bool)(i3:Nat)(ei3:(List Int)):Unit→Option Bool:=λ_=>
 (chk (decide (i3<b.length)) (Option.bind (m_firthref06_Ints ei3 (gt b i3)) λz16=>(bif (!z16) then
 (some false)
 else
 (f2 ()))))
def m_firthlaw19_paths(a:List (List Int))(b:List (List Int)):Option Bool:=
 (bif (((a.length:Nat):Int) != ((b.length:Nat):Int)) then
 (some false)
 else
 (forI (m_firthlaw19_paths_b1 b) (λ_=>
 (some true)) 0 a ()))
def m_firthlaw19_PullPlays_j25(f71:Ofirthref19_Pull×Opull_Pull→Option Bool)(o172:Ofirthref19_Pull)(o175:Opull_Pull)(x_256:Bool):Option Bool:=
 (bif x_256 then
 (some false)
 else
 (f71 (o172,o175)))
def m_firthlaw19_PullPlays_j22(f71:Ofirthref19_Pull×Opull_Pull→Option Bool)(o172:Ofirthref19_Pull)(o175:Opull_Pull):Option Bool:=
 (Option.bind (m_pull_Pull_Done o175) λz259=>(Option.bind (m_firthref19_Pull_Done o172) λz261=>(bif (!(z259 != z261)) then
 (Option.bind (m_pull_Pull_Wants o175) λz269=>(Option.bind (gcall (!(z259 != z261)) (m_firthlaw19_paths z269 o172.paths)) λz280=>(bif (!(!z280)) then
 (Option.bind (m_pull_Pull_Staged o175) λz289=>(Option.bind (gcall (!(!z280)) (m_firthref06_SameRecs z289 o172.in_)) λz300=>(bif (!(!z300)) then
 (Option.bind (m_pull_Pull_Vec o175) λz309=>(Option.bind (gcall (!(!z300)) (m_firthref04_Same z309 o172.vec)) λz320=>(m_firthlaw19_PullPlays_j25 f71 o172 o175 (!z320))))
 else
 (m_firthlaw19_PullPlays_j25 f71 o172 o175 true))))
 else
 (m_firthlaw19_PullPlays_j25 f71 o172 o175 true))))
 else
 (m_firthlaw19_PullPlays_j25 f71 o172 o175 true))))
def m_firthlaw19_PullPlays_j24(z54:Ofirthref19_Cut)(f71:Ofirthref19_Pull×Opull_Pull→Option Bool)(o130:Ofirthref19_Pull)(o133:Opull_Pull)(at_191:Int):Option Bool:=
 (chk (inb at_191 o130.paths.length) (Option.bind (m_firthref19_Cut_Want z54 (gt o130.paths at_191.toNat)) λz201=>(chk (decide (0+(gt o130.paths at_191.toNat).length≤lim)) (Option.bind (m_pull_Pull_Tell o133 (gt o130.paths at_191.toNat) z201.1 z201.2.1) λz235=>(Option.bind (m_firthref19_Pull_Tell o130 (gt o130.paths at_191.toNat) z201.1 z201.2.1) λz244=>(bif (z235.2 != z244.2) then
 (some false)
 else
 (m_firthlaw19_PullPlays_j22 f71 z244.1 z235.1)))))))
def m_firthlaw19_PullPlays_j21(script:List Dfirthlaw19_Op)(z54:Ofirthref19_Cut)(f71:Ofirthref19_Pull×Opull_Pull→Option Bool)(i72:Nat)(x_129:Bool)(o130:Ofirthref19_Pull)(o133:Opull_Pull):Option Bool:=
 (bif x_129 then
 (some false)
 else
 (bif ((((gt script i72).kind==3)||((gt script i72).kind==4))&&(decide (0<((o130.paths.length:Nat):Int)))) then
 (bif ((gt script i72).kind==4) then
 (m_firthlaw19_PullPlays_j24 z54 f71 o130 o133 (w64 (((o130.paths.length:Nat):Int) - 1)))
 else
 (m_firthlaw19_PullPlays_j24 z54 f71 o130 o133 0))
 else
 (m_firthlaw19_PullPlays_j22 f71 o130 o133)))
def m_firthlaw19_PullPlays_j20(script:List Dfirthlaw19_Op)(z54:Ofirthref19_Cut)(f71:Ofirthref19_Pull×Opull_Pull→Option Bool)(i72:Nat)(x_90:Bool)(o91:Ofirthref19_Pull)(o94:Opull_Pull):Option Bool:=
 (bif x_90 then
 (some false)
 else
 (bif ((gt script i72).kind==2) then
 (Option.bind (m_pull_Pull_Tell o94 ((gt script i72).path) ((gt script i72).hashes) ((gt script i72).list)) λz152=>(Option.bind (m_firthref19_Pull_Tell o91 ((gt script i72).path) ((gt script i72).hashes) ((gt script i72).list)) λz160=>(m_firthlaw19_PullPlays_j21 script z54 f71 i72 (z152.2 != z160.2) z160.1 z152.1)))
 else
 (m_firthlaw19_PullPlays_j21 script z54 f71 i72 false o91 o94)))
def m_firthlaw19_PullPlays_b19(script:List Dfirthlaw19_Op)(z54:Ofirthref19_Cut)(f71:Ofirthref19_Pull×Opull_Pull→Option Bool)(i72:Nat)(ei72:Dfirthlaw19_Op):Ofirthref19_Pull×Opull_Pull→Option Bool:=λ(o65,o68)=>
 (bif (ei72.kind==1) then
 (Option.bind (m_pull_Pull_Begin o68 (ei72.vec) (ei72.hashes)) λz109=>(Option.bind (m_firthref19_Pull_Begin o65 (ei72.vec) (ei72.hashes)) λz117=>(m_firthlaw19_PullPlays_j20 script z54 f71 i72 (z109.2 != z117.2) z117.1 z109.1)))
 else
 (m_firthlaw19_PullPlays_j20 script z54 f71 i72 false o65 o68))
def m_firthlaw19_PullPlays(own:List Rec)(cut:List Rec)(script:List Dfirthlaw19_Op):Option Bool:=
 (Option.bind (m_pull_NewPull 5 own) λz1=>(Option.bind (m_firthref19_NewPull 5 own) λz11=>(Option.bind (m_firthlaw19_awake) λz21=>(bif (((!z21)||(z1.2 != z11.2))||((Option.isNone z1.1) != (Option.isNone z11.1))) then
 (some false)
 else
 (Option.bind (m_firthref19_NewCut 5 [1] cut) λz39=>(bif (((Option.isNone z1.1)||(Option.isNone z11.1))||(Option.isNone z39.1)) then
 (some true)
 else
 (Option.bind z39.1 λz54=>(Option.bind z11.1 λz57=>(Option.bind z1.1 λz60=>(forI (m_firthlaw19_PullPlays_b19 script z54) (λ(o65,o68)=>
 (Option.bind (m_pull_Pull_Id o68) λz328=>(some (z328==5)))) 0 script (z57,z60)))))))))))
end Fw
end Go.Proofs.YtiakfgdgafljnaaGreat
