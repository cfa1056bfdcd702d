/- The law NodeKeeps, as it is given: the whole row. No condition. -/
import Derived.Test.YtgaplodcdhhefaaGreatW4
import Derived.Test.YtgaplodcdhhefaaGreatPJ2
import Derived.Test.YtgaplodcdhhefaaGreatK11
namespace Go.Proofs.YtgaplodcdhhefaaGreat
namespace Fw
set_option linter.unusedVariables false
set_option linter.unusedSimpArgs false
set_option linter.unusedSectionVars false
open Go.RowKit Go.ChangeShapes
theorem own_:ownKnob Tryz.prog.godebug=none:=by kernel_rfl
theorem zd:laidOutB Tryz.prog=true:=by kernel_rfl
theorem ln_2{α:Type}{cs:List α}(h:cs.length=2):∃c0 c1,cs = [c0,c1]:=by
  match cs,h with | [c0,c1],_=>exact⟨_,_,rfl⟩
theorem ln_3{α:Type}{cs:List α}(h:cs.length=3):∃c0 c1 c2,cs = [c0,c1,c2]:=by
  match cs,h with | [c0,c1,c2],_=>exact⟨_,_,_,rfl⟩
theorem ln_4{α:Type}{cs:List α}(h:cs.length=4):∃c0 c1 c2 c3,cs = [c0,c1,c2,c3]:=by
  match cs,h with | [c0,c1,c2,c3],_=>exact⟨_,_,_,_,rfl⟩
theorem ln_5{α:Type}{cs:List α}(h:cs.length=5):∃c0 c1 c2 c3 c4,cs = [c0,c1,c2,c3,c4]:=by
  match cs,h with | [c0,c1,c2,c3,c4],_=>exact⟨_,_,_,_,_,rfl⟩
set_option maxRecDepth 100000 in
theorem yT:pF Tryz.prog 69 dotT Dot.bk:=by
  intro H enc w base spare held fuel cs x h hnf hb
  obtain⟨xs,n,_,rfl,hl,hlen,hf⟩:=DataW.trod_struct Tryz.underlying69 h
  rw [show Tryz.prog.cellsOf 69=2 from by kernel_rfl] at hl
  obtain⟨c0,c1,rfl⟩:∃c0 c1,cs = [c0,c1]:=ln_2 hl
  obtain⟨y0,y1,rfl⟩:∃y0 y1,xs = [y0,y1]:=ln_2 hlen
  simp only [List.map,Rows.uptoBulk,Rows.uptoBulkAll] at hb
  have h0:DataW.trod enc Tryz.prog w base spare held n 3 (([c0,c1].drop 0).take (Tryz.prog.cellsOf 3))=some y0:=hf 0 _ rfl
  rw [show Tryz.prog.cellsOf 3=1 from by kernel_rfl] at h0
  have h1:DataW.trod enc Tryz.prog w base spare held n 2 (([c0,c1].drop 1).take (Tryz.prog.cellsOf 2))=some y1:=hf 1 _ rfl
  rw [show Tryz.prog.cellsOf 2=1 from by kernel_rfl] at h1
  obtain⟨v0,g0,m0⟩:=(lj Tryz.underlying3) H enc w base spare held n _ _ h0 (mj (xs:=[y0,y1]) hnf (by simp)) (by omega)
  obtain⟨e0,r0⟩:=g0
  simp only [List.drop,List.take,List.cons.injEq,and_true] at e0
  obtain rfl:=e0
  obtain⟨v1,g1,m1⟩:=(lj Tryz.underlying2) H enc w base spare held n _ _ h1 (mj (xs:=[y0,y1]) hnf (by simp)) (by omega)
  obtain⟨e1,r1⟩:=g1
  simp only [List.drop,List.take,List.cons.injEq,and_true] at e1
  obtain rfl:=e1
  refine⟨⟨v0,v1⟩,⟨rfl,r0,r1⟩,?_⟩
  simp only [Dot.bk,List.map,Rows.uptoBulk,Rows.uptoBulkAll]
  omega
set_option maxRecDepth 100000 in
theorem yJ:pF Tryz.prog 78 bW Span.bk:=by
  intro H enc w base spare held fuel cs x h hnf hb
  obtain⟨xs,n,_,rfl,hl,hlen,hf⟩:=DataW.trod_struct Tryz.underlying78 h
  rw [show Tryz.prog.cellsOf 78=3 from by kernel_rfl] at hl
  obtain⟨c0,c1,c2,rfl⟩:∃c0 c1 c2,cs = [c0,c1,c2]:=ln_3 hl
  obtain⟨y0,y1,y2,rfl⟩:∃y0 y1 y2,xs = [y0,y1,y2]:=ln_3 hlen
  simp only [List.map,Rows.uptoBulk,Rows.uptoBulkAll] at hb
  have h0:DataW.trod enc Tryz.prog w base spare held n 3 (([c0,c1,c2].drop 0).take (Tryz.prog.cellsOf 3))=some y0:=hf 0 _ rfl
  rw [show Tryz.prog.cellsOf 3=1 from by kernel_rfl] at h0
  have h1:DataW.trod enc Tryz.prog w base spare held n 2 (([c0,c1,c2].drop 1).take (Tryz.prog.cellsOf 2))=some y1:=hf 1 _ rfl
  rw [show Tryz.prog.cellsOf 2=1 from by kernel_rfl] at h1
  have h2:DataW.trod enc Tryz.prog w base spare held n 2 (([c0,c1,c2].drop 2).take (Tryz.prog.cellsOf 2))=some y2:=hf 2 _ rfl
  rw [show Tryz.prog.cellsOf 2=1 from by kernel_rfl] at h2
  obtain⟨v0,g0,m0⟩:=(lj Tryz.underlying3) H enc w base spare held n _ _ h0 (mj (xs:=[y0,y1,y2]) hnf (by simp)) (by omega)
  obtain⟨e0,r0⟩:=g0
  simp only [List.drop,List.take,List.cons.injEq,and_true] at e0
  obtain rfl:=e0
  obtain⟨v1,g1,m1⟩:=(lj Tryz.underlying2) H enc w base spare held n _ _ h1 (mj (xs:=[y0,y1,y2]) hnf (by simp)) (by omega)
  obtain⟨e1,r1⟩:=g1
  simp only [List.drop,List.take,List.cons.injEq,and_true] at e1
  obtain rfl:=e1
  obtain⟨v2,g2,m2⟩:=(lj Tryz.underlying2) H enc w base spare held n _ _ h2 (mj (xs:=[y0,y1,y2]) hnf (by simp)) (by omega)
  obtain⟨e2,r2⟩:=g2
  simp only [List.drop,List.take,List.cons.injEq,and_true] at e2
  obtain rfl:=e2
  refine⟨⟨v0,v1,v2⟩,⟨rfl,r0,r1,r2⟩,?_⟩
  simp only [Span.bk,List.map,Rows.uptoBulk,Rows.uptoBulkAll]
  omega
set_option maxRecDepth 100000 in
theorem zM:pF Tryz.prog 72 verT Ver.bk:=by
  intro H enc w base spare held fuel cs x h hnf hb
  obtain⟨xs,n,_,rfl,hl,hlen,hf⟩:=DataW.trod_struct Tryz.underlying72 h
  rw [show Tryz.prog.cellsOf 72=5 from by kernel_rfl] at hl
  obtain⟨c0,c1,c2,c3,c4,rfl⟩:∃c0 c1 c2 c3 c4,cs = [c0,c1,c2,c3,c4]:=ln_5 hl
  obtain⟨y0,y1,y2,y3,rfl⟩:∃y0 y1 y2 y3,xs = [y0,y1,y2,y3]:=ln_4 hlen
  simp only [List.map,Rows.uptoBulk,Rows.uptoBulkAll] at hb
  have h0:DataW.trod enc Tryz.prog w base spare held n 69 (([c0,c1,c2,c3,c4].drop 0).take (Tryz.prog.cellsOf 69))=some y0:=hf 0 _ rfl
  rw [show Tryz.prog.cellsOf 69=2 from by kernel_rfl] at h0
  have h1:DataW.trod enc Tryz.prog w base spare held n 70 (([c0,c1,c2,c3,c4].drop 2).take (Tryz.prog.cellsOf 70))=some y1:=hf 1 _ rfl
  rw [show Tryz.prog.cellsOf 70=1 from by kernel_rfl] at h1
  have h2:DataW.trod enc Tryz.prog w base spare held n 4 (([c0,c1,c2,c3,c4].drop 3).take (Tryz.prog.cellsOf 4))=some y2:=hf 2 _ rfl
  rw [show Tryz.prog.cellsOf 4=1 from by kernel_rfl] at h2
  have h3:DataW.trod enc Tryz.prog w base spare held n 9 (([c0,c1,c2,c3,c4].drop 4).take (Tryz.prog.cellsOf 9))=some y3:=hf 3 _ rfl
  rw [show Tryz.prog.cellsOf 9=1 from by kernel_rfl] at h3
  obtain⟨v0,g0,m0⟩:=yT H enc w base spare held n _ _ h0 (mj (xs:=[y0,y1,y2,y3]) hnf (by simp)) (by omega)
  obtain⟨e0,r0_0,r0_1⟩:=g0
  simp only [Dot.cs,List.drop,List.take,List.cons.injEq,and_true] at e0
  obtain⟨rfl,rfl⟩:=e0
  obtain⟨v1,g1,m1⟩:=(mB Tryz.underlying70 (by kernel_rfl) yJ) H enc w base spare held n _ _ h1 (mj (xs:=[y0,y1,y2,y3]) hnf (by simp)) (by omega)
  obtain⟨A2,b2,e1,l1,s1⟩:=g1
  simp only [List.drop,List.take,List.cons.injEq,and_true] at e1
  obtain rfl:=e1
  obtain⟨v2,g2,m2⟩:=(wh Tryz.underlying4) H enc w base spare held n _ _ h2 (mj (xs:=[y0,y1,y2,y3]) hnf (by simp)) (by omega)
  have e2:_=_:=g2
  simp only [List.drop,List.take,List.cons.injEq,and_true] at e2
  obtain rfl:=e2
  obtain⟨v3,g3,m3⟩:=(t8 Tryz.underlying9) H enc w base spare held n _ _ h3 (mj (xs:=[y0,y1,y2,y3]) hnf (by simp)) (by omega)
  obtain⟨e3,r3⟩:=g3
  simp only [List.drop,List.take,List.cons.injEq,and_true] at e3
  obtain rfl:=e3
  refine⟨⟨v0,v1,v2,v3⟩,⟨A2,b2,rfl,r0_0,r0_1,⟨l1,s1⟩,r3⟩,?_⟩
  simp only [Ver.bk,List.map,Rows.uptoBulk,Rows.uptoBulkAll]
  omega
set_option maxRecDepth 100000 in
theorem yu:pF Tryz.prog 36 recT Rec.bk:=by
  intro H enc w base spare held fuel cs x h hnf hb
  obtain⟨xs,n,_,rfl,hl,hlen,hf⟩:=DataW.trod_struct Tryz.underlying36 h
  rw [show Tryz.prog.cellsOf 36=2 from by kernel_rfl] at hl
  obtain⟨c0,c1,rfl⟩:∃c0 c1,cs = [c0,c1]:=ln_2 hl
  obtain⟨y0,y1,rfl⟩:∃y0 y1,xs = [y0,y1]:=ln_2 hlen
  simp only [List.map,Rows.uptoBulk,Rows.uptoBulkAll] at hb
  have h0:DataW.trod enc Tryz.prog w base spare held n 9 (([c0,c1].drop 0).take (Tryz.prog.cellsOf 9))=some y0:=hf 0 _ rfl
  rw [show Tryz.prog.cellsOf 9=1 from by kernel_rfl] at h0
  have h1:DataW.trod enc Tryz.prog w base spare held n 34 (([c0,c1].drop 1).take (Tryz.prog.cellsOf 34))=some y1:=hf 1 _ rfl
  rw [show Tryz.prog.cellsOf 34=1 from by kernel_rfl] at h1
  obtain⟨v0,g0,m0⟩:=(t8 Tryz.underlying9) H enc w base spare held n _ _ h0 (mj (xs:=[y0,y1]) hnf (by simp)) (by omega)
  obtain⟨e0,r0⟩:=g0
  simp only [List.drop,List.take,List.cons.injEq,and_true] at e0
  obtain rfl:=e0
  obtain⟨v1,g1,m1⟩:=(mB Tryz.underlying34 (by kernel_rfl) zM) H enc w base spare held n _ _ h1 (mj (xs:=[y0,y1]) hnf (by simp)) (by omega)
  obtain⟨A1,b1,e1,l1,s1⟩:=g1
  simp only [List.drop,List.take,List.cons.injEq,and_true] at e1
  obtain rfl:=e1
  refine⟨⟨v0,v1⟩,⟨A1,b1,rfl,r0,⟨l1,s1⟩⟩,?_⟩
  simp only [Rec.bk,List.map,Rows.uptoBulk,Rows.uptoBulkAll]
  omega
set_option maxRecDepth 100000 in
theorem oh(H:Type)(enc:TypeId×Value→H)(W:World)(base:Nat)(args:Array Value)(ds gs:List (DataW H))(before:List MemPlace)
    (hval:∀(j:Nat) t v,Tryz.f3.params[j]? = some t→args[j]? = some v→Value.okWide Tryz.prog W .any base t v)
    (hW:DataW.Whole enc Tryz.prog Tryz.f3.params.toList Rows.nodeKeepsSpec.vars false W args.toList ds gs before) (hk:Rows.uptoSmall H (ds++gs)=true) :
    Calls Tryz.prog 3 args W λe W' => ∃v,e = .returned v∧Rows.nodeKeepsSpec.post enc Tryz.prog Tryz.f3 false true false false W args v W':=by
  have hW':=hW
  have hlt:=λp hp=>hW.lt p hp
  obtain⟨p,q,hA0,hV,rfl,hfz,hnd⟩:=hW
  have hA:DataW.TrodAll enc Tryz.prog W 0 (λ_=>true) true Tryz.f3.params.toList args.toList ds p:=hA0
  rw [Tryz.params3] at hA hval
  obtain⟨v0,vs0,d0,ds0,p0,q0,hargs0,hd0,hp0,h0,r0⟩:=trodAll_cons hA
  obtain⟨hvn,hdn,hpn⟩:=trodAll_nil r0
  have hds:ds = [d0]:=by simp_all
  obtain rfl:args = #[v0]:=by cases args; simp_all
  subst hds
  obtain⟨hgs,hq⟩:=trodVars_none hV
  subst hgs
  have hbulk:=DP hk
  simp only [Eb] at hbulk
  have hb0:Rows.uptoBulk d0≤1048576:=Nat.le_trans (tx (by simp)) hbulk
  obtain⟨fu0,hf0⟩:=h0
  have hnf0:W.noneFrozen p0:=λb off hm=>hfz b off (List.mem_append.2 (.inl (by rw [hp0]; exact List.mem_append.2 (.inl hm))))
  obtain⟨A0,n0,c0,rfl⟩:=WideShapes.okWide_slice Tryz.underlying22 (hval 0 22 v0 rfl rfl)
  obtain⟨list,⟨B0,e0,he0,hc0,hs0⟩,hm0⟩:=(mB Tryz.underlying22 (by kernel_rfl) yu) H enc W _ _ _ _ _ _ hf0 hnf0 hb0
  obtain⟨rfl,rfl,rfl⟩:A0=B0∧n0=list.length∧c0=e0:=by simpa [Value.cells] using he0
  refine(lm (Γ:=Gh.all W) hs0 hc0 (Sat.all W) (lH (Γ:=Gh.all W) hs0 hc0 (Nat.le_trans hm0 hb0))).mono λe W' ⟨he,hf⟩=>?_
  subst he
  exact⟨_,rfl,sN (pa:=p) (pv:=[]) hW' (λ_ _ _=>(trodAll_cons_mk (shut_bool Tryz.underlying4 _) trodAll_mk0)) (λsp hsp=>nO zd hf.below (by kernel_rfl) hA0 (λx hx=>hlt x (List.mem_append.2 (.inl hx))) sp (λx hx=>hsp x (List.mem_append.2 (.inl hx)))) (λ_ _=>rfl) (by rw [hq]) hf.below (ok_one (by kernel_rfl) rfl (okWide_bool_mk Tryz.underlying4 _))⟩
set_option maxRecDepth 100000 in
theorem pW(os:Os)(started:os.Started)(H:Type)(enc:TypeId×Value→H)(F:Stop.Interp):
    ReturnsInHanded {} Tryz.checked os 3 .any ((Rows.OpenSpec.upto Rows.nodeKeepsSpec).pre6 enc Tryz.prog Tryz.f3 Rows.nodeKeepsUptoRow.domain false) (((Rows.OpenSpec.upto Rows.nodeKeepsSpec).at F).post enc Tryz.prog Tryz.f3 false true false false):=by
  refine returnsInHanded_of_cond (C:=Tryz.checked) (s:=Rows.OpenSpec.upto Rows.nodeKeepsSpec) (k:=Rows.uptoSmall) rfl own_ started (by kernel_rfl) Tryz.func3
    (OpenSpec.witness (enc:=enc) (C:=Tryz.checked) (s:=Rows.OpenSpec.upto Rows.nodeKeepsSpec) (k:=Rows.uptoSmall) rfl false ⟨#[], #[.slice none 0 0],[]⟩ 8 (by kernel_rfl) (by kernel_rfl) (by kernel_rfl)
      (x:=([.nil],[],[])) (by kernel_rfl) rfl (by kernel_rfl)) ?_
  intro W base args ds gs before hval hW _ hk _
  exact oh H enc W base args ds gs before hval hW hk
theorem sb:Rows.nodeKeepsUptoRow.holds Tryz.pinned (Rows.OpenSpec.upto Rows.nodeKeepsSpec):=
  OpenClaim.holds_of_cond 3 Tryz.f3 rfl rfl rfl rfl rfl rfl rfl ⟨rfl,rfl,rfl,rfl,rfl⟩ rfl rfl rfl rfl rfl (by kernel_rfl) Tryz.func3 (by kernel_rfl)
    (DP (by kernel_rfl)) (by unfold Func.isWrapper; first | (rw [if_pos (by decide +kernel)]; kernel_rfl) | (rw [if_neg (by decide +kernel)]; exact⟨rfl,rfl⟩))
    (λos started H enc _ F=>pW os started H enc F)
theorem NodeKeeps_proved:Rows.NodeKeepsUptoSaid:=sb
end Fw
theorem NodeKeeps_holds:Rows.NodeKeepsUptoSaid:=Fw.NodeKeeps_proved
end Go.Proofs.YtgaplodcdhhefaaGreat
