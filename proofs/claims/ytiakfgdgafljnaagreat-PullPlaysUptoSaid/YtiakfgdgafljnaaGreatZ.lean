/- The law PullPlays, as it is given: the whole row. No condition. -/
import Derived.Test.YtiakfgdgafljnaaGreatW4
import Derived.Test.YtiakfgdgafljnaaGreatPJ2
import Derived.Test.YtiakfgdgafljnaaGreatK11
namespace Go.Proofs.YtiakfgdgafljnaaGreat
namespace Fw
set_option linter.unusedVariables false
set_option linter.unusedSimpArgs false
set_option linter.unusedSectionVars false
open Go.RowKit Go.ChangeShapes
theorem own_:ownKnob Tryz.prog.godebug=none:=by kernel_rfl
theorem laidOut_:laidOutB Tryz.prog=true:=by kernel_rfl
theorem ln_2{α:Type}{cs:List α}(h:cs.length=2):∃c0 c1,cs = [c0,c1]:=by
  match cs,h with | [c0,c1],_=>exact⟨_,_,rfl⟩
theorem ln_3{α:Type}{cs:List α}(h:cs.length=3):∃c0 c1 c2,cs = [c0,c1,c2]:=by
  match cs,h with | [c0,c1,c2],_=>exact⟨_,_,_,rfl⟩
theorem ln_4{α:Type}{cs:List α}(h:cs.length=4):∃c0 c1 c2 c3,cs = [c0,c1,c2,c3]:=by
  match cs,h with | [c0,c1,c2,c3],_=>exact⟨_,_,_,_,rfl⟩
theorem ln_5{α:Type}{cs:List α}(h:cs.length=5):∃c0 c1 c2 c3 c4,cs = [c0,c1,c2,c3,c4]:=by
  match cs,h with | [c0,c1,c2,c3,c4],_=>exact⟨_,_,_,_,_,rfl⟩
theorem opens_112:Opens Tryz.prog 112 dotT Dot.bk:=by
  intro H enc w base spare held fuel cs x h hb
  obtain⟨xs,n,_,rfl,hl,hlen,hf⟩:=DataW.trod_struct Tryz.underlying112 h
  rw [show Tryz.prog.cellsOf 112=2 from by kernel_rfl] at hl
  obtain⟨c0,c1,rfl⟩:∃c0 c1,cs = [c0,c1]:=ln_2 hl
  obtain⟨y0,y1,rfl⟩:∃y0 y1,xs = [y0,y1]:=ln_2 hlen
  simp only [List.map,Rows.uptoBulk,Rows.uptoBulkAll] at hb
  have h0:DataW.trod enc Tryz.prog w base spare held n 3 (([c0,c1].drop 0).take (Tryz.prog.cellsOf 3))=some y0:=hf 0 _ rfl
  rw [show Tryz.prog.cellsOf 3=1 from by kernel_rfl] at h0
  have h1:DataW.trod enc Tryz.prog w base spare held n 2 (([c0,c1].drop 1).take (Tryz.prog.cellsOf 2))=some y1:=hf 1 _ rfl
  rw [show Tryz.prog.cellsOf 2=1 from by kernel_rfl] at h1
  obtain⟨v0,g0,m0⟩:=(opens_i64 Tryz.underlying3) H enc w base spare held n _ _ h0 (by omega)
  obtain⟨e0,r0⟩:=g0
  simp only [List.drop,List.take,List.cons.injEq,and_true] at e0
  obtain rfl:=e0
  obtain⟨v1,g1,m1⟩:=(opens_i64 Tryz.underlying2) H enc w base spare held n _ _ h1 (by omega)
  obtain⟨e1,r1⟩:=g1
  simp only [List.drop,List.take,List.cons.injEq,and_true] at e1
  obtain rfl:=e1
  refine⟨⟨v0,v1⟩,⟨rfl,r0,r1⟩,?_⟩
  simp only [Dot.bk,List.map,Rows.uptoBulk,Rows.uptoBulkAll]
  omega
theorem opens_117:Opens Tryz.prog 117 spanT Span.bk:=by
  intro H enc w base spare held fuel cs x h hb
  obtain⟨xs,n,_,rfl,hl,hlen,hf⟩:=DataW.trod_struct Tryz.underlying117 h
  rw [show Tryz.prog.cellsOf 117=3 from by kernel_rfl] at hl
  obtain⟨c0,c1,c2,rfl⟩:∃c0 c1 c2,cs = [c0,c1,c2]:=ln_3 hl
  obtain⟨y0,y1,y2,rfl⟩:∃y0 y1 y2,xs = [y0,y1,y2]:=ln_3 hlen
  simp only [List.map,Rows.uptoBulk,Rows.uptoBulkAll] at hb
  have h0:DataW.trod enc Tryz.prog w base spare held n 3 (([c0,c1,c2].drop 0).take (Tryz.prog.cellsOf 3))=some y0:=hf 0 _ rfl
  rw [show Tryz.prog.cellsOf 3=1 from by kernel_rfl] at h0
  have h1:DataW.trod enc Tryz.prog w base spare held n 2 (([c0,c1,c2].drop 1).take (Tryz.prog.cellsOf 2))=some y1:=hf 1 _ rfl
  rw [show Tryz.prog.cellsOf 2=1 from by kernel_rfl] at h1
  have h2:DataW.trod enc Tryz.prog w base spare held n 2 (([c0,c1,c2].drop 2).take (Tryz.prog.cellsOf 2))=some y2:=hf 2 _ rfl
  rw [show Tryz.prog.cellsOf 2=1 from by kernel_rfl] at h2
  obtain⟨v0,g0,m0⟩:=(opens_i64 Tryz.underlying3) H enc w base spare held n _ _ h0 (by omega)
  obtain⟨e0,r0⟩:=g0
  simp only [List.drop,List.take,List.cons.injEq,and_true] at e0
  obtain rfl:=e0
  obtain⟨v1,g1,m1⟩:=(opens_i64 Tryz.underlying2) H enc w base spare held n _ _ h1 (by omega)
  obtain⟨e1,r1⟩:=g1
  simp only [List.drop,List.take,List.cons.injEq,and_true] at e1
  obtain rfl:=e1
  obtain⟨v2,g2,m2⟩:=(opens_i64 Tryz.underlying2) H enc w base spare held n _ _ h2 (by omega)
  obtain⟨e2,r2⟩:=g2
  simp only [List.drop,List.take,List.cons.injEq,and_true] at e2
  obtain rfl:=e2
  refine⟨⟨v0,v1,v2⟩,⟨rfl,r0,r1,r2⟩,?_⟩
  simp only [Span.bk,List.map,Rows.uptoBulk,Rows.uptoBulkAll]
  omega
theorem opens_115:Opens Tryz.prog 115 verT Ver.bk:=by
  intro H enc w base spare held fuel cs x h hb
  obtain⟨xs,n,_,rfl,hl,hlen,hf⟩:=DataW.trod_struct Tryz.underlying115 h
  rw [show Tryz.prog.cellsOf 115=5 from by kernel_rfl] at hl
  obtain⟨c0,c1,c2,c3,c4,rfl⟩:∃c0 c1 c2 c3 c4,cs = [c0,c1,c2,c3,c4]:=ln_5 hl
  obtain⟨y0,y1,y2,y3,rfl⟩:∃y0 y1 y2 y3,xs = [y0,y1,y2,y3]:=ln_4 hlen
  simp only [List.map,Rows.uptoBulk,Rows.uptoBulkAll] at hb
  have h0:DataW.trod enc Tryz.prog w base spare held n 112 (([c0,c1,c2,c3,c4].drop 0).take (Tryz.prog.cellsOf 112))=some y0:=hf 0 _ rfl
  rw [show Tryz.prog.cellsOf 112=2 from by kernel_rfl] at h0
  have h1:DataW.trod enc Tryz.prog w base spare held n 113 (([c0,c1,c2,c3,c4].drop 2).take (Tryz.prog.cellsOf 113))=some y1:=hf 1 _ rfl
  rw [show Tryz.prog.cellsOf 113=1 from by kernel_rfl] at h1
  have h2:DataW.trod enc Tryz.prog w base spare held n 4 (([c0,c1,c2,c3,c4].drop 3).take (Tryz.prog.cellsOf 4))=some y2:=hf 2 _ rfl
  rw [show Tryz.prog.cellsOf 4=1 from by kernel_rfl] at h2
  have h3:DataW.trod enc Tryz.prog w base spare held n 9 (([c0,c1,c2,c3,c4].drop 4).take (Tryz.prog.cellsOf 9))=some y3:=hf 3 _ rfl
  rw [show Tryz.prog.cellsOf 9=1 from by kernel_rfl] at h3
  obtain⟨v0,g0,m0⟩:=opens_112 H enc w base spare held n _ _ h0 (by omega)
  obtain⟨e0,r0_0,r0_1⟩:=g0
  simp only [Dot.cs,List.drop,List.take,List.cons.injEq,and_true] at e0
  obtain⟨rfl,rfl⟩:=e0
  obtain⟨v1,g1,m1⟩:=(opens_slice Tryz.underlying113 (by kernel_rfl) opens_117) H enc w base spare held n _ _ h1 (by omega)
  obtain⟨A2,b2,e1,l1,s1⟩:=g1
  simp only [List.drop,List.take,List.cons.injEq,and_true] at e1
  obtain rfl:=e1
  obtain⟨v2,g2,m2⟩:=(opens_bool Tryz.underlying4) H enc w base spare held n _ _ h2 (by omega)
  have e2:_=_:=g2
  simp only [List.drop,List.take,List.cons.injEq,and_true] at e2
  obtain rfl:=e2
  obtain⟨v3,g3,m3⟩:=(opens_str Tryz.underlying9) H enc w base spare held n _ _ h3 (by omega)
  obtain⟨e3,r3⟩:=g3
  simp only [List.drop,List.take,List.cons.injEq,and_true] at e3
  obtain rfl:=e3
  refine⟨⟨v0,v1,v2,v3⟩,⟨A2,b2,rfl,r0_0,r0_1,⟨l1,s1⟩,r3⟩,?_⟩
  simp only [Ver.bk,List.map,Rows.uptoBulk,Rows.uptoBulkAll]
  omega
theorem opens_70:Opens Tryz.prog 70 recT Rec.bk:=by
  intro H enc w base spare held fuel cs x h hb
  obtain⟨xs,n,_,rfl,hl,hlen,hf⟩:=DataW.trod_struct Tryz.underlying70 h
  rw [show Tryz.prog.cellsOf 70=2 from by kernel_rfl] at hl
  obtain⟨c0,c1,rfl⟩:∃c0 c1,cs = [c0,c1]:=ln_2 hl
  obtain⟨y0,y1,rfl⟩:∃y0 y1,xs = [y0,y1]:=ln_2 hlen
  simp only [List.map,Rows.uptoBulk,Rows.uptoBulkAll] at hb
  have h0:DataW.trod enc Tryz.prog w base spare held n 9 (([c0,c1].drop 0).take (Tryz.prog.cellsOf 9))=some y0:=hf 0 _ rfl
  rw [show Tryz.prog.cellsOf 9=1 from by kernel_rfl] at h0
  have h1:DataW.trod enc Tryz.prog w base spare held n 67 (([c0,c1].drop 1).take (Tryz.prog.cellsOf 67))=some y1:=hf 1 _ rfl
  rw [show Tryz.prog.cellsOf 67=1 from by kernel_rfl] at h1
  obtain⟨v0,g0,m0⟩:=(opens_str Tryz.underlying9) H enc w base spare held n _ _ h0 (by omega)
  obtain⟨e0,r0⟩:=g0
  simp only [List.drop,List.take,List.cons.injEq,and_true] at e0
  obtain rfl:=e0
  obtain⟨v1,g1,m1⟩:=(opens_slice Tryz.underlying67 (by kernel_rfl) opens_115) H enc w base spare held n _ _ h1 (by omega)
  obtain⟨A1,b1,e1,l1,s1⟩:=g1
  simp only [List.drop,List.take,List.cons.injEq,and_true] at e1
  obtain rfl:=e1
  refine⟨⟨v0,v1⟩,⟨A1,b1,rfl,r0,⟨l1,s1⟩⟩,?_⟩
  simp only [Rec.bk,List.map,Rows.uptoBulk,Rows.uptoBulkAll]
  omega
theorem opens_54:Opens Tryz.prog 54 dfirthlaw19_OpT Dfirthlaw19_Op.bk:=by
  intro H enc w base spare held fuel cs x h hb
  obtain⟨xs,n,_,rfl,hl,hlen,hf⟩:=DataW.trod_struct Tryz.underlying54 h
  rw [show Tryz.prog.cellsOf 54=5 from by kernel_rfl] at hl
  obtain⟨c0,c1,c2,c3,c4,rfl⟩:∃c0 c1 c2 c3 c4,cs = [c0,c1,c2,c3,c4]:=ln_5 hl
  obtain⟨y0,y1,y2,y3,y4,rfl⟩:∃y0 y1 y2 y3 y4,xs = [y0,y1,y2,y3,y4]:=ln_5 hlen
  simp only [List.map,Rows.uptoBulk,Rows.uptoBulkAll] at hb
  have h0:DataW.trod enc Tryz.prog w base spare held n 3 (([c0,c1,c2,c3,c4].drop 0).take (Tryz.prog.cellsOf 3))=some y0:=hf 0 _ rfl
  rw [show Tryz.prog.cellsOf 3=1 from by kernel_rfl] at h0
  have h1:DataW.trod enc Tryz.prog w base spare held n 22 (([c0,c1,c2,c3,c4].drop 1).take (Tryz.prog.cellsOf 22))=some y1:=hf 1 _ rfl
  rw [show Tryz.prog.cellsOf 22=1 from by kernel_rfl] at h1
  have h2:DataW.trod enc Tryz.prog w base spare held n 24 (([c0,c1,c2,c3,c4].drop 2).take (Tryz.prog.cellsOf 24))=some y2:=hf 2 _ rfl
  rw [show Tryz.prog.cellsOf 24=1 from by kernel_rfl] at h2
  have h3:DataW.trod enc Tryz.prog w base spare held n 33 (([c0,c1,c2,c3,c4].drop 3).take (Tryz.prog.cellsOf 33))=some y3:=hf 3 _ rfl
  rw [show Tryz.prog.cellsOf 33=1 from by kernel_rfl] at h3
  have h4:DataW.trod enc Tryz.prog w base spare held n 23 (([c0,c1,c2,c3,c4].drop 4).take (Tryz.prog.cellsOf 23))=some y4:=hf 4 _ rfl
  rw [show Tryz.prog.cellsOf 23=1 from by kernel_rfl] at h4
  obtain⟨v0,g0,m0⟩:=(opens_i64 Tryz.underlying3) H enc w base spare held n _ _ h0 (by omega)
  obtain⟨e0,r0⟩:=g0
  simp only [List.drop,List.take,List.cons.injEq,and_true] at e0
  obtain rfl:=e0
  obtain⟨v1,g1,m1⟩:=(opens_slice Tryz.underlying22 (by kernel_rfl) (opens_i64 Tryz.underlying2)) H enc w base spare held n _ _ h1 (by omega)
  obtain⟨A1,b1,e1,l1,s1⟩:=g1
  simp only [List.drop,List.take,List.cons.injEq,and_true] at e1
  obtain rfl:=e1
  obtain⟨v2,g2,m2⟩:=(opens_slice Tryz.underlying24 (by kernel_rfl) (opens_i64 Tryz.underlying3)) H enc w base spare held n _ _ h2 (by omega)
  obtain⟨A2,b2,e2,l2,s2⟩:=g2
  simp only [List.drop,List.take,List.cons.injEq,and_true] at e2
  obtain rfl:=e2
  obtain⟨v3,g3,m3⟩:=(opens_slice Tryz.underlying33 (by kernel_rfl) (opens_u64 Tryz.underlying78)) H enc w base spare held n _ _ h3 (by omega)
  obtain⟨A3,b3,e3,l3,s3⟩:=g3
  simp only [List.drop,List.take,List.cons.injEq,and_true] at e3
  obtain rfl:=e3
  obtain⟨v4,g4,m4⟩:=(opens_slice Tryz.underlying23 (by kernel_rfl) opens_70) H enc w base spare held n _ _ h4 (by omega)
  obtain⟨A4,b4,e4,l4,s4⟩:=g4
  simp only [List.drop,List.take,List.cons.injEq,and_true] at e4
  obtain rfl:=e4
  refine⟨⟨v0,v1,v2,v3,v4⟩,⟨A1,b1,A2,b2,A3,b3,A4,b4,rfl,r0,⟨l1,s1⟩,⟨l2,s2⟩,⟨l3,s3⟩,⟨l4,s4⟩⟩,?_⟩
  simp only [Dfirthlaw19_Op.bk,List.map,Rows.uptoBulk,Rows.uptoBulkAll]
  omega
set_option maxRecDepth 100000 in
theorem PullPlays_contract(H:Type)(enc:TypeId×Value→H)(W:World)(base:Nat)(args:Array Value)(ds gs:List (DataW H))(before:List MemPlace)
    (hval:∀(j:Nat) t v,Tryz.f4.params[j]? = some t→args[j]? = some v→Value.okWide Tryz.prog W .any base t v)
    (hW:DataW.Whole enc Tryz.prog Tryz.f4.params.toList Rows.pullPlaysSpec.vars false W args.toList ds gs before) (hk:Rows.uptoSmall H (ds++gs)=true) :
    Calls Tryz.prog 4 args W λe W' => ∃v,e = .returned v∧Rows.pullPlaysSpec.post enc Tryz.prog Tryz.f4 false true false false W args v W':=by
  have hW':=hW
  have hlt:=λp hp=>hW.lt p hp
  obtain⟨p,q,hA0,hV,rfl,hfz,hnd⟩:=hW
  have hA:DataW.TrodAll enc Tryz.prog W 0 (λ_=>true) true Tryz.f4.params.toList args.toList ds p:=hA0
  rw [Tryz.params4] at hA hval
  obtain⟨v0,vs0,d0,ds0,p0,q0,hargs0,hd0,hp0,h0,r0⟩:=trodAll_cons hA
  obtain⟨v1,vs1,d1,ds1,p1,q1,hargs1,hd1,hp1,h1,r1⟩:=trodAll_cons r0
  obtain⟨v2,vs2,d2,ds2,p2,q2,hargs2,hd2,hp2,h2,r2⟩:=trodAll_cons r1
  obtain⟨hvn,hdn,hpn⟩:=trodAll_nil r2
  have hds:ds = [d0,d1,d2]:=by simp_all
  obtain rfl:args = #[v0,v1,v2]:=by cases args; simp_all
  subst hds
  obtain⟨hgs,hq⟩:=trodVars_none hV
  subst hgs
  have hbulk:=of_decide_eq_true hk
  simp only [List.append_nil] at hbulk
  have hb0:Rows.uptoBulk d0≤1048576:=Nat.le_trans (bulk_part (by simp)) hbulk
  obtain⟨fu0,hf0⟩:=h0
  obtain⟨A0,n0,c0,rfl⟩:=WideShapes.okWide_slice Tryz.underlying23 (hval 0 23 v0 rfl rfl)
  obtain⟨own,⟨B0,e0,he0,hc0,hs0⟩,hm0⟩:=(opens_slice Tryz.underlying23 (by kernel_rfl) opens_70) H enc W _ _ _ _ _ _ hf0 hb0
  obtain⟨rfl,rfl,rfl⟩:A0=B0∧n0=own.length∧c0=e0:=by simpa [Value.cells] using he0
  have hb1:Rows.uptoBulk d1≤1048576:=Nat.le_trans (bulk_part (by simp)) hbulk
  obtain⟨fu1,hf1⟩:=h1
  obtain⟨A1,n1,c1,rfl⟩:=WideShapes.okWide_slice Tryz.underlying23 (hval 1 23 v1 rfl rfl)
  obtain⟨cut,⟨B1,e1,he1,hc1,hs1⟩,hm1⟩:=(opens_slice Tryz.underlying23 (by kernel_rfl) opens_70) H enc W _ _ _ _ _ _ hf1 hb1
  obtain⟨rfl,rfl,rfl⟩:A1=B1∧n1=cut.length∧c1=e1:=by simpa [Value.cells] using he1
  have hb2:Rows.uptoBulk d2≤1048576:=Nat.le_trans (bulk_part (by simp)) hbulk
  obtain⟨fu2,hf2⟩:=h2
  obtain⟨A2,n2,c2,rfl⟩:=WideShapes.okWide_slice Tryz.underlying46 (hval 2 46 v2 rfl rfl)
  obtain⟨script,⟨B2,e2,he2,hc2,hs2⟩,hm2⟩:=(opens_slice Tryz.underlying46 (by kernel_rfl) opens_54) H enc W _ _ _ _ _ _ hf2 hb2
  obtain⟨rfl,rfl,rfl⟩:A2=B2∧n2=script.length∧c2=e2:=by simpa [Value.cells] using he2
  refine(t_firthlaw19_PullPlays (Γ:=Gh.all W) hs0 hc0 hs1 hc1 hs2 hc2 (Sat.all W) (p_firthlaw19_PullPlays (Γ:=Gh.all W) hs0 hc0 hs1 hc1 hs2 hc2 (Nat.le_trans hm0 hb0) (Nat.le_trans hm1 hb1) (Nat.le_trans hm2 hb2))).mono λe W' ⟨he,hf⟩=>?_
  subst he
  exact⟨_,rfl,post_of_below (pa:=p) (pv:=[]) hW' (λ_ _ _=>(trodAll_cons_mk (shut_bool Tryz.underlying4 _) trodAll_mk0)) (λsp hsp=>trodAll_below laidOut_ hf.below (by kernel_rfl) hA0 (λx hx=>hlt x (List.mem_append.2 (.inl hx))) sp (λx hx=>hsp x (List.mem_append.2 (.inl hx)))) (λ_ _=>rfl) (by rw [hq]) hf.below (ok_one (by kernel_rfl) rfl (okWide_bool_mk Tryz.underlying4 _))⟩
set_option maxRecDepth 100000 in
theorem PullPlays_lifted(os:Os)(started:os.Started)(H:Type)(enc:TypeId×Value→H)(F:Stop.Interp):
    ReturnsInHanded {} Tryz.checked os 4 .any ((Rows.OpenSpec.upto Rows.pullPlaysSpec).pre6 enc Tryz.prog Tryz.f4 Rows.pullPlaysUptoRow.domain false) (((Rows.OpenSpec.upto Rows.pullPlaysSpec).at F).post enc Tryz.prog Tryz.f4 false true false false):=by
  refine returnsInHanded_of_cond (C:=Tryz.checked) (s:=Rows.OpenSpec.upto Rows.pullPlaysSpec) (k:=Rows.uptoSmall) rfl own_ started (by kernel_rfl) Tryz.func4
    (OpenSpec.witness (enc:=enc) (C:=Tryz.checked) (s:=Rows.OpenSpec.upto Rows.pullPlaysSpec) (k:=Rows.uptoSmall) rfl false ⟨#[], #[.slice none 0 0,.slice none 0 0,.slice none 0 0],[]⟩ 8 (by kernel_rfl) (by kernel_rfl) (by kernel_rfl)
      (x:=([.nil,.nil,.nil],[],[])) (by kernel_rfl) rfl (by kernel_rfl)) ?_
  intro W base args ds gs before hval hW _ hk _
  exact PullPlays_contract H enc W base args ds gs before hval hW hk
theorem PullPlays_over:Rows.pullPlaysUptoRow.holds Tryz.pinned (Rows.OpenSpec.upto Rows.pullPlaysSpec):=
  OpenClaim.holds_of_cond 4 Tryz.f4 rfl rfl rfl rfl rfl rfl rfl ⟨rfl,rfl,rfl,rfl,rfl⟩ rfl rfl rfl rfl rfl (by kernel_rfl) Tryz.func4 (by kernel_rfl)
    (of_decide_eq_true (by kernel_rfl)) (by unfold Func.isWrapper; first | (rw [if_pos (by decide +kernel)]; kernel_rfl) | (rw [if_neg (by decide +kernel)]; exact⟨rfl,rfl⟩))
    (λos started H enc _ F=>PullPlays_lifted os started H enc F)
theorem PullPlays_proved:Rows.PullPlaysUptoSaid:=PullPlays_over
end Fw
theorem PullPlays_holds:Rows.PullPlaysUptoSaid:=Fw.PullPlays_proved
end Go.Proofs.YtiakfgdgafljnaaGreat
