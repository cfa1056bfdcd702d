/- The law StorePlays, as it is given: the whole row. No condition. -/
import Derived.Test.YtmafjpdiplfcmaaGreatW4
import Derived.Test.YtmafjpdiplfcmaaGreatPJ3
import Derived.Test.YtmafjpdiplfcmaaGreatK11
namespace Go.Proofs.YtmafjpdiplfcmaaGreat
namespace Fw
set_option linter.unusedVariables false
set_option linter.unusedSimpArgs false
set_option linter.unusedSectionVars false
open Go.RowKit Go.ChangeShapes
theorem own_:ownKnob Tryz.prog.godebug=none:=by kernel_rfl
theorem DY:laidOutB Tryz.prog=true:=by kernel_rfl
theorem ln_2{α:Type}{cs:List α}(h:cs.length=2):∃c0 c1,cs = [c0,c1]:=by
  match cs,h with | [c0,c1],_=>exact⟨_,_,rfl⟩
theorem ln_3{α:Type}{cs:List α}(h:cs.length=3):∃c0 c1 c2,cs = [c0,c1,c2]:=by
  match cs,h with | [c0,c1,c2],_=>exact⟨_,_,_,rfl⟩
theorem ln_4{α:Type}{cs:List α}(h:cs.length=4):∃c0 c1 c2 c3,cs = [c0,c1,c2,c3]:=by
  match cs,h with | [c0,c1,c2,c3],_=>exact⟨_,_,_,_,rfl⟩
theorem ln_5{α:Type}{cs:List α}(h:cs.length=5):∃c0 c1 c2 c3 c4,cs = [c0,c1,c2,c3,c4]:=by
  match cs,h with | [c0,c1,c2,c3,c4],_=>exact⟨_,_,_,_,_,rfl⟩
theorem ln_6{α:Type}{cs:List α}(h:cs.length=6):∃c0 c1 c2 c3 c4 c5,cs = [c0,c1,c2,c3,c4,c5]:=by
  match cs,h with | [c0,c1,c2,c3,c4,c5],_=>exact⟨_,_,_,_,_,_,rfl⟩
theorem ln_7{α:Type}{cs:List α}(h:cs.length=7):∃c0 c1 c2 c3 c4 c5 c6,cs = [c0,c1,c2,c3,c4,c5,c6]:=by
  match cs,h with | [c0,c1,c2,c3,c4,c5,c6],_=>exact⟨_,_,_,_,_,_,_,rfl⟩
theorem E5:rf Tryz.prog 36 dotT Dot.bk:=by
  intro H enc w base spare held fuel cs x h hnf hb
  obtain⟨xs,n,_,rfl,hl,hlen,hf⟩:=DataW.trod_struct Tryz.underlying36 h
  rw [show Tryz.prog.cellsOf 36=2 from by kernel_rfl] at hl
  obtain⟨c0,c1,rfl⟩:∃c0 c1,cs = [c0,c1]:=ln_2 hl
  obtain⟨y0,y1,rfl⟩:∃y0 y1,xs = [y0,y1]:=ln_2 hlen
  simp only [List.map,Rows.uptoBulk,Rows.uptoBulkAll] at hb
  have h0:DataW.trod enc Tryz.prog w base spare held n 3 (([c0,c1].drop 0).take (Tryz.prog.cellsOf 3))=some y0:=hf 0 _ rfl
  rw [show Tryz.prog.cellsOf 3=1 from by kernel_rfl] at h0
  have h1:DataW.trod enc Tryz.prog w base spare held n 2 (([c0,c1].drop 1).take (Tryz.prog.cellsOf 2))=some y1:=hf 1 _ rfl
  rw [show Tryz.prog.cellsOf 2=1 from by kernel_rfl] at h1
  obtain⟨v0,g0,m0⟩:=(jG Tryz.underlying3) H enc w base spare held n _ _ h0 (mN (xs:=[y0,y1]) hnf (by simp)) (by omega)
  obtain⟨e0,r0⟩:=g0
  simp only [List.drop,List.take,List.cons.injEq,and_true] at e0
  obtain rfl:=e0
  obtain⟨v1,g1,m1⟩:=(jG Tryz.underlying2) H enc w base spare held n _ _ h1 (mN (xs:=[y0,y1]) hnf (by simp)) (by omega)
  obtain⟨e1,r1⟩:=g1
  simp only [List.drop,List.take,List.cons.injEq,and_true] at e1
  obtain rfl:=e1
  refine⟨⟨v0,v1⟩,⟨rfl,r0,r1⟩,?_⟩
  simp only [Dot.bk,List.map,Rows.uptoBulk,Rows.uptoBulkAll]
  omega
theorem Ew:rf Tryz.prog 41 gS Span.bk:=by
  intro H enc w base spare held fuel cs x h hnf hb
  obtain⟨xs,n,_,rfl,hl,hlen,hf⟩:=DataW.trod_struct Tryz.underlying41 h
  rw [show Tryz.prog.cellsOf 41=3 from by kernel_rfl] at hl
  obtain⟨c0,c1,c2,rfl⟩:∃c0 c1 c2,cs = [c0,c1,c2]:=ln_3 hl
  obtain⟨y0,y1,y2,rfl⟩:∃y0 y1 y2,xs = [y0,y1,y2]:=ln_3 hlen
  simp only [List.map,Rows.uptoBulk,Rows.uptoBulkAll] at hb
  have h0:DataW.trod enc Tryz.prog w base spare held n 3 (([c0,c1,c2].drop 0).take (Tryz.prog.cellsOf 3))=some y0:=hf 0 _ rfl
  rw [show Tryz.prog.cellsOf 3=1 from by kernel_rfl] at h0
  have h1:DataW.trod enc Tryz.prog w base spare held n 2 (([c0,c1,c2].drop 1).take (Tryz.prog.cellsOf 2))=some y1:=hf 1 _ rfl
  rw [show Tryz.prog.cellsOf 2=1 from by kernel_rfl] at h1
  have h2:DataW.trod enc Tryz.prog w base spare held n 2 (([c0,c1,c2].drop 2).take (Tryz.prog.cellsOf 2))=some y2:=hf 2 _ rfl
  rw [show Tryz.prog.cellsOf 2=1 from by kernel_rfl] at h2
  obtain⟨v0,g0,m0⟩:=(jG Tryz.underlying3) H enc w base spare held n _ _ h0 (mN (xs:=[y0,y1,y2]) hnf (by simp)) (by omega)
  obtain⟨e0,r0⟩:=g0
  simp only [List.drop,List.take,List.cons.injEq,and_true] at e0
  obtain rfl:=e0
  obtain⟨v1,g1,m1⟩:=(jG Tryz.underlying2) H enc w base spare held n _ _ h1 (mN (xs:=[y0,y1,y2]) hnf (by simp)) (by omega)
  obtain⟨e1,r1⟩:=g1
  simp only [List.drop,List.take,List.cons.injEq,and_true] at e1
  obtain rfl:=e1
  obtain⟨v2,g2,m2⟩:=(jG Tryz.underlying2) H enc w base spare held n _ _ h2 (mN (xs:=[y0,y1,y2]) hnf (by simp)) (by omega)
  obtain⟨e2,r2⟩:=g2
  simp only [List.drop,List.take,List.cons.injEq,and_true] at e2
  obtain rfl:=e2
  refine⟨⟨v0,v1,v2⟩,⟨rfl,r0,r1,r2⟩,?_⟩
  simp only [Span.bk,List.map,Rows.uptoBulk,Rows.uptoBulkAll]
  omega
theorem E3:rf Tryz.prog 39 verT Ver.bk:=by
  intro H enc w base spare held fuel cs x h hnf hb
  obtain⟨xs,n,_,rfl,hl,hlen,hf⟩:=DataW.trod_struct Tryz.underlying39 h
  rw [show Tryz.prog.cellsOf 39=5 from by kernel_rfl] at hl
  obtain⟨c0,c1,c2,c3,c4,rfl⟩:∃c0 c1 c2 c3 c4,cs = [c0,c1,c2,c3,c4]:=ln_5 hl
  obtain⟨y0,y1,y2,y3,rfl⟩:∃y0 y1 y2 y3,xs = [y0,y1,y2,y3]:=ln_4 hlen
  simp only [List.map,Rows.uptoBulk,Rows.uptoBulkAll] at hb
  have h0:DataW.trod enc Tryz.prog w base spare held n 36 (([c0,c1,c2,c3,c4].drop 0).take (Tryz.prog.cellsOf 36))=some y0:=hf 0 _ rfl
  rw [show Tryz.prog.cellsOf 36=2 from by kernel_rfl] at h0
  have h1:DataW.trod enc Tryz.prog w base spare held n 37 (([c0,c1,c2,c3,c4].drop 2).take (Tryz.prog.cellsOf 37))=some y1:=hf 1 _ rfl
  rw [show Tryz.prog.cellsOf 37=1 from by kernel_rfl] at h1
  have h2:DataW.trod enc Tryz.prog w base spare held n 4 (([c0,c1,c2,c3,c4].drop 3).take (Tryz.prog.cellsOf 4))=some y2:=hf 2 _ rfl
  rw [show Tryz.prog.cellsOf 4=1 from by kernel_rfl] at h2
  have h3:DataW.trod enc Tryz.prog w base spare held n 9 (([c0,c1,c2,c3,c4].drop 4).take (Tryz.prog.cellsOf 9))=some y3:=hf 3 _ rfl
  rw [show Tryz.prog.cellsOf 9=1 from by kernel_rfl] at h3
  obtain⟨v0,g0,m0⟩:=E5 H enc w base spare held n _ _ h0 (mN (xs:=[y0,y1,y2,y3]) hnf (by simp)) (by omega)
  obtain⟨e0,r0_0,r0_1⟩:=g0
  simp only [Dot.cs,List.drop,List.take,List.cons.injEq,and_true] at e0
  obtain⟨rfl,rfl⟩:=e0
  obtain⟨v1,g1,m1⟩:=(n8 Tryz.underlying37 (by kernel_rfl) Ew) H enc w base spare held n _ _ h1 (mN (xs:=[y0,y1,y2,y3]) hnf (by simp)) (by omega)
  obtain⟨A2,b2,e1,l1,s1⟩:=g1
  simp only [List.drop,List.take,List.cons.injEq,and_true] at e1
  obtain rfl:=e1
  obtain⟨v2,g2,m2⟩:=(Br Tryz.underlying4) H enc w base spare held n _ _ h2 (mN (xs:=[y0,y1,y2,y3]) hnf (by simp)) (by omega)
  have e2:_=_:=g2
  simp only [List.drop,List.take,List.cons.injEq,and_true] at e2
  obtain rfl:=e2
  obtain⟨v3,g3,m3⟩:=(xp Tryz.underlying9) H enc w base spare held n _ _ h3 (mN (xs:=[y0,y1,y2,y3]) hnf (by simp)) (by omega)
  obtain⟨e3,r3⟩:=g3
  simp only [List.drop,List.take,List.cons.injEq,and_true] at e3
  obtain rfl:=e3
  refine⟨⟨v0,v1,v2,v3⟩,⟨A2,b2,rfl,r0_0,r0_1,⟨l1,s1⟩,r3⟩,?_⟩
  simp only [Ver.bk,List.map,Rows.uptoBulk,Rows.uptoBulkAll]
  omega
theorem DO:rf Tryz.prog 24 recT Rec.bk:=by
  intro H enc w base spare held fuel cs x h hnf hb
  obtain⟨xs,n,_,rfl,hl,hlen,hf⟩:=DataW.trod_struct Tryz.underlying24 h
  rw [show Tryz.prog.cellsOf 24=2 from by kernel_rfl] at hl
  obtain⟨c0,c1,rfl⟩:∃c0 c1,cs = [c0,c1]:=ln_2 hl
  obtain⟨y0,y1,rfl⟩:∃y0 y1,xs = [y0,y1]:=ln_2 hlen
  simp only [List.map,Rows.uptoBulk,Rows.uptoBulkAll] at hb
  have h0:DataW.trod enc Tryz.prog w base spare held n 9 (([c0,c1].drop 0).take (Tryz.prog.cellsOf 9))=some y0:=hf 0 _ rfl
  rw [show Tryz.prog.cellsOf 9=1 from by kernel_rfl] at h0
  have h1:DataW.trod enc Tryz.prog w base spare held n 22 (([c0,c1].drop 1).take (Tryz.prog.cellsOf 22))=some y1:=hf 1 _ rfl
  rw [show Tryz.prog.cellsOf 22=1 from by kernel_rfl] at h1
  obtain⟨v0,g0,m0⟩:=(xp Tryz.underlying9) H enc w base spare held n _ _ h0 (mN (xs:=[y0,y1]) hnf (by simp)) (by omega)
  obtain⟨e0,r0⟩:=g0
  simp only [List.drop,List.take,List.cons.injEq,and_true] at e0
  obtain rfl:=e0
  obtain⟨v1,g1,m1⟩:=(n8 Tryz.underlying22 (by kernel_rfl) E3) H enc w base spare held n _ _ h1 (mN (xs:=[y0,y1]) hnf (by simp)) (by omega)
  obtain⟨A1,b1,e1,l1,s1⟩:=g1
  simp only [List.drop,List.take,List.cons.injEq,and_true] at e1
  obtain rfl:=e1
  refine⟨⟨v0,v1⟩,⟨A1,b1,rfl,r0,⟨l1,s1⟩⟩,?_⟩
  simp only [Rec.bk,List.map,Rows.uptoBulk,Rows.uptoBulkAll]
  omega
theorem Eu:rf Tryz.prog 53 js au.bk:=by
  intro H enc w base spare held fuel cs x h hnf hb
  obtain⟨xs,n,_,rfl,hl,hlen,hf⟩:=DataW.trod_struct Tryz.underlying53 h
  rw [show Tryz.prog.cellsOf 53=7 from by kernel_rfl] at hl
  obtain⟨c0,c1,c2,c3,c4,c5,c6,rfl⟩:∃c0 c1 c2 c3 c4 c5 c6,cs = [c0,c1,c2,c3,c4,c5,c6]:=ln_7 hl
  obtain⟨y0,y1,y2,y3,y4,y5,rfl⟩:∃y0 y1 y2 y3 y4 y5,xs = [y0,y1,y2,y3,y4,y5]:=ln_6 hlen
  simp only [List.map,Rows.uptoBulk,Rows.uptoBulkAll] at hb
  have h0:DataW.trod enc Tryz.prog w base spare held n 3 (([c0,c1,c2,c3,c4,c5,c6].drop 0).take (Tryz.prog.cellsOf 3))=some y0:=hf 0 _ rfl
  rw [show Tryz.prog.cellsOf 3=1 from by kernel_rfl] at h0
  have h1:DataW.trod enc Tryz.prog w base spare held n 24 (([c0,c1,c2,c3,c4,c5,c6].drop 1).take (Tryz.prog.cellsOf 24))=some y1:=hf 1 _ rfl
  rw [show Tryz.prog.cellsOf 24=2 from by kernel_rfl] at h1
  have h2:DataW.trod enc Tryz.prog w base spare held n 50 (([c0,c1,c2,c3,c4,c5,c6].drop 3).take (Tryz.prog.cellsOf 50))=some y2:=hf 2 _ rfl
  rw [show Tryz.prog.cellsOf 50=1 from by kernel_rfl] at h2
  have h3:DataW.trod enc Tryz.prog w base spare held n 51 (([c0,c1,c2,c3,c4,c5,c6].drop 4).take (Tryz.prog.cellsOf 51))=some y3:=hf 3 _ rfl
  rw [show Tryz.prog.cellsOf 51=1 from by kernel_rfl] at h3
  have h4:DataW.trod enc Tryz.prog w base spare held n 3 (([c0,c1,c2,c3,c4,c5,c6].drop 5).take (Tryz.prog.cellsOf 3))=some y4:=hf 4 _ rfl
  rw [show Tryz.prog.cellsOf 3=1 from by kernel_rfl] at h4
  have h5:DataW.trod enc Tryz.prog w base spare held n 3 (([c0,c1,c2,c3,c4,c5,c6].drop 6).take (Tryz.prog.cellsOf 3))=some y5:=hf 5 _ rfl
  rw [show Tryz.prog.cellsOf 3=1 from by kernel_rfl] at h5
  obtain⟨v0,g0,m0⟩:=(jG Tryz.underlying3) H enc w base spare held n _ _ h0 (mN (xs:=[y0,y1,y2,y3,y4,y5]) hnf (by simp)) (by omega)
  obtain⟨e0,r0⟩:=g0
  simp only [List.drop,List.take,List.cons.injEq,and_true] at e0
  obtain rfl:=e0
  obtain⟨v1,g1,m1⟩:=DO H enc w base spare held n _ _ h1 (mN (xs:=[y0,y1,y2,y3,y4,y5]) hnf (by simp)) (by omega)
  obtain⟨A2,b2,e1,r1_0,r1_1⟩:=g1
  simp only [Rec.cs,List.drop,List.take,List.cons.injEq,and_true] at e1
  obtain⟨rfl,rfl⟩:=e1
  obtain⟨v2,g2,m2⟩:=(n8 Tryz.underlying50 (by kernel_rfl) (jG Tryz.underlying2)) H enc w base spare held n _ _ h2 (mN (xs:=[y0,y1,y2,y3,y4,y5]) hnf (by simp)) (by omega)
  obtain⟨A3,b3,e2,l2,s2⟩:=g2
  simp only [List.drop,List.take,List.cons.injEq,and_true] at e2
  obtain rfl:=e2
  obtain⟨v3,g3,m3⟩:=(n8 Tryz.underlying51 (by kernel_rfl) (Dm Tryz.underlying5)) H enc w base spare held n _ _ h3 (mN (xs:=[y0,y1,y2,y3,y4,y5]) hnf (by simp)) (by omega)
  obtain⟨A4,b4,e3,l3,s3⟩:=g3
  simp only [List.drop,List.take,List.cons.injEq,and_true] at e3
  obtain rfl:=e3
  obtain⟨v4,g4,m4⟩:=(jG Tryz.underlying3) H enc w base spare held n _ _ h4 (mN (xs:=[y0,y1,y2,y3,y4,y5]) hnf (by simp)) (by omega)
  obtain⟨e4,r4⟩:=g4
  simp only [List.drop,List.take,List.cons.injEq,and_true] at e4
  obtain rfl:=e4
  obtain⟨v5,g5,m5⟩:=(jG Tryz.underlying3) H enc w base spare held n _ _ h5 (mN (xs:=[y0,y1,y2,y3,y4,y5]) hnf (by simp)) (by omega)
  obtain⟨e5,r5⟩:=g5
  simp only [List.drop,List.take,List.cons.injEq,and_true] at e5
  obtain rfl:=e5
  refine⟨⟨v0,v1,v2,v3,v4,v5⟩,⟨A2,b2,A3,b3,A4,b4,rfl,r0,r1_0,r1_1,⟨l2,s2⟩,⟨l3,s3⟩,r4,r5⟩,?_⟩
  simp only [au.bk,List.map,Rows.uptoBulk,Rows.uptoBulkAll]
  omega
set_option maxRecDepth 100000 in
theorem rZ(H:Type)(enc:TypeId×Value→H)(W:World)(base:Nat)(args:Array Value)(ds gs:List (DataW H))(before:List MemPlace)
    (hval:∀(j:Nat) t v,Tryz.f4.params[j]? = some t→args[j]? = some v→Value.okWide Tryz.prog W .any base t v)
    (hW:DataW.Whole enc Tryz.prog Tryz.f4.params.toList Rows.storePlaysSpec.vars false W args.toList ds gs before) (hk:Rows.uptoSmall H (ds++gs)=true) :
    Calls Tryz.prog 4 args W λe W' => ∃v,e = .returned v∧Rows.storePlaysSpec.post enc Tryz.prog Tryz.f4 false true false false W args v W':=by
  have hW':=hW
  have hlt:=λp hp=>hW.lt p hp
  obtain⟨p,q,hA0,hV,rfl,hfz,hnd⟩:=hW
  have hA:DataW.TrodAll enc Tryz.prog W 0 (λ_=>true) true Tryz.f4.params.toList args.toList ds p:=hA0
  rw [Tryz.params4] at hA hval
  obtain⟨v0,vs0,d0,ds0,p0,q0,hargs0,hd0,hp0,h0,r0⟩:=trodAll_cons hA
  obtain⟨v1,vs1,d1,ds1,p1,q1,hargs1,hd1,hp1,h1,r1⟩:=trodAll_cons r0
  obtain⟨hvn,hdn,hpn⟩:=trodAll_nil r1
  have hds:ds = [d0,d1]:=by simp_all
  obtain rfl:args = #[v0,v1]:=by cases args; simp_all
  subst hds
  obtain⟨hgs,hq⟩:=trodVars_none hV
  subst hgs
  have hbulk:=Ip hk
  simp only [IL] at hbulk
  have hb0:Rows.uptoBulk d0≤1048576:=Nat.le_trans (uF (by simp)) hbulk
  obtain⟨fu0,hf0⟩:=h0
  have hnf0:W.noneFrozen p0:=λb off hm=>hfz b off (List.mem_append.2 (.inl (by rw [hp0]; exact List.mem_append.2 (.inl hm))))
  obtain⟨room,rfl⟩:=WideShapes.okWide_int Tryz.underlying3 (hval 0 3 v0 rfl rfl)
  obtain⟨x0,⟨he0,hx0⟩,_⟩:=(jG Tryz.underlying3) H enc W _ _ _ _ _ _ hf0 hnf0 hb0
  obtain rfl:room=x0:=by simpa [Value.cells] using he0
  have hb1:Rows.uptoBulk d1≤1048576:=Nat.le_trans (uF (by simp)) hbulk
  obtain⟨fu1,hf1⟩:=h1
  have hnf1:W.noneFrozen p1:=λb off hm=>hfz b off (List.mem_append.2 (.inl (by rw [hp0]; exact List.mem_append.2 (.inr (by rw [hp1]; exact List.mem_append.2 (.inl hm))))))
  obtain⟨A1,n1,c1,rfl⟩:=WideShapes.okWide_slice Tryz.underlying44 (hval 1 44 v1 rfl rfl)
  obtain⟨script,⟨B1,e1,he1,hc1,hs1⟩,hm1⟩:=(n8 Tryz.underlying44 (by kernel_rfl) Eu) H enc W _ _ _ _ _ _ hf1 hnf1 hb1
  obtain⟨rfl,rfl,rfl⟩:A1=B1∧n1=script.length∧c1=e1:=by simpa [Value.cells] using he1
  refine(oP (Γ:=Gh.all W) room hx0 hs1 hc1 (Sat.all W) (pp (Γ:=Gh.all W) room hx0 hs1 hc1 (Nat.le_trans hm1 hb1))).mono λe W' ⟨he,hf⟩=>?_
  subst he
  exact⟨_,rfl,xl (pa:=p) (pv:=[]) hW' (λ_ _ _=>(trodAll_cons_mk (shut_bool Tryz.underlying4 _) trodAll_mk0)) (λsp hsp=>s8 DY hf.below (by kernel_rfl) hA0 (λx hx=>hlt x (List.mem_append.2 (.inl hx))) sp (λx hx=>hsp x (List.mem_append.2 (.inl hx)))) (λ_ _=>rfl) (by rw [hq]) hf.below (ok_one (by kernel_rfl) rfl (okWide_bool_mk Tryz.underlying4 _))⟩
set_option maxRecDepth 100000 in
theorem ua(os:Os)(started:os.Started)(H:Type)(enc:TypeId×Value→H)(F:Stop.Interp):
    ReturnsInHanded {} Tryz.checked os 4 .any ((Rows.OpenSpec.upto Rows.storePlaysSpec).pre6 enc Tryz.prog Tryz.f4 Rows.storePlaysUptoRow.domain false) (((Rows.OpenSpec.upto Rows.storePlaysSpec).at F).post enc Tryz.prog Tryz.f4 false true false false):=by
  refine returnsInHanded_of_cond (C:=Tryz.checked) (s:=Rows.OpenSpec.upto Rows.storePlaysSpec) (k:=Rows.uptoSmall) rfl own_ started (by kernel_rfl) Tryz.func4
    (OpenSpec.witness (enc:=enc) (C:=Tryz.checked) (s:=Rows.OpenSpec.upto Rows.storePlaysSpec) (k:=Rows.uptoSmall) rfl false ⟨#[], #[.int .i64 0,.slice none 0 0],[]⟩ 8 (by kernel_rfl) (by kernel_rfl) (by kernel_rfl)
      (x:=([.lit (.int .i64 0),.nil],[],[])) (by kernel_rfl) rfl (by kernel_rfl)) ?_
  intro W base args ds gs before hval hW _ hk _
  exact rZ H enc W base args ds gs before hval hW hk
theorem vG:Rows.storePlaysUptoRow.holds Tryz.pinned (Rows.OpenSpec.upto Rows.storePlaysSpec):=
  OpenClaim.holds_of_cond 4 Tryz.f4 rfl rfl rfl rfl rfl rfl rfl ⟨rfl,rfl,rfl,rfl,rfl⟩ rfl rfl rfl rfl rfl (by kernel_rfl) Tryz.func4 (by kernel_rfl)
    (Ip (by kernel_rfl)) (by unfold Func.isWrapper; first | (rw [if_pos (by decide +kernel)]; kernel_rfl) | (rw [if_neg (by decide +kernel)]; exact⟨rfl,rfl⟩))
    (λos started H enc _ F=>ua os started H enc F)
theorem StorePlays_proved:Rows.StorePlaysUptoSaid:=vG
end Fw
theorem StorePlays_holds:Rows.StorePlaysUptoSaid:=Fw.StorePlays_proved
end Go.Proofs.YtmafjpdiplfcmaaGreat
