/- The law NodeHints, as it is given: the whole row. No condition. -/
import Derived.Test.YtckindfllegbgaaGreatW3
import Derived.Test.YtckindfllegbgaaGreatPJ3
import Derived.Test.YtckindfllegbgaaGreatK11
namespace Go.Proofs.YtckindfllegbgaaGreat
namespace Fw
set_option linter.unusedVariables false
set_option linter.unusedSimpArgs false
set_option linter.unusedSectionVars false
open Go.RowKit Go.ChangeShapes
theorem own_:ownKnob Tryz.prog.godebug=none:=by kernel_rfl
theorem laidOut_:laidOutB Tryz.prog=true:=by kernel_rfl
theorem ln_2{α:Type}{cs:List α}(h:cs.length=2):∃c0 c1,cs = [c0,c1]:=by
  match cs,h with | [c0,c1],_=>exact⟨_,_,rfl⟩
theorem ln_3{α:Type}{cs:List α}(h:cs.length=3):∃c0 c1 c2,cs = [c0,c1,c2]:=by
  match cs,h with | [c0,c1,c2],_=>exact⟨_,_,_,rfl⟩
theorem ln_4{α:Type}{cs:List α}(h:cs.length=4):∃c0 c1 c2 c3,cs = [c0,c1,c2,c3]:=by
  match cs,h with | [c0,c1,c2,c3],_=>exact⟨_,_,_,_,rfl⟩
theorem ln_5{α:Type}{cs:List α}(h:cs.length=5):∃c0 c1 c2 c3 c4,cs = [c0,c1,c2,c3,c4]:=by
  match cs,h with | [c0,c1,c2,c3,c4],_=>exact⟨_,_,_,_,_,rfl⟩
theorem opens_86:Opens Tryz.prog 86 dotT Dot.bk:=by
  intro H enc w base spare held fuel cs x h hnf hb
  obtain⟨xs,n,_,rfl,hl,hlen,hf⟩:=DataW.trod_struct Tryz.underlying86 h
  rw [show Tryz.prog.cellsOf 86=2 from by kernel_rfl] at hl
  obtain⟨c0,c1,rfl⟩:∃c0 c1,cs = [c0,c1]:=ln_2 hl
  obtain⟨y0,y1,rfl⟩:∃y0 y1,xs = [y0,y1]:=ln_2 hlen
  simp only [List.map,Rows.uptoBulk,Rows.uptoBulkAll] at hb
  have h0:DataW.trod enc Tryz.prog w base spare held n 3 (([c0,c1].drop 0).take (Tryz.prog.cellsOf 3))=some y0:=hf 0 _ rfl
  rw [show Tryz.prog.cellsOf 3=1 from by kernel_rfl] at h0
  have h1:DataW.trod enc Tryz.prog w base spare held n 2 (([c0,c1].drop 1).take (Tryz.prog.cellsOf 2))=some y1:=hf 1 _ rfl
  rw [show Tryz.prog.cellsOf 2=1 from by kernel_rfl] at h1
  obtain⟨v0,g0,m0⟩:=(opens_i64 Tryz.underlying3) H enc w base spare held n _ _ h0 (nf_of (xs:=[y0,y1]) hnf (by simp)) (by omega)
  obtain⟨e0,r0⟩:=g0
  simp only [List.drop,List.take,List.cons.injEq,and_true] at e0
  obtain rfl:=e0
  obtain⟨v1,g1,m1⟩:=(opens_i64 Tryz.underlying2) H enc w base spare held n _ _ h1 (nf_of (xs:=[y0,y1]) hnf (by simp)) (by omega)
  obtain⟨e1,r1⟩:=g1
  simp only [List.drop,List.take,List.cons.injEq,and_true] at e1
  obtain rfl:=e1
  refine⟨⟨v0,v1⟩,⟨rfl,r0,r1⟩,?_⟩
  simp only [Dot.bk,List.map,Rows.uptoBulk,Rows.uptoBulkAll]
  omega
theorem opens_93:Opens Tryz.prog 93 spanT Span.bk:=by
  intro H enc w base spare held fuel cs x h hnf hb
  obtain⟨xs,n,_,rfl,hl,hlen,hf⟩:=DataW.trod_struct Tryz.underlying93 h
  rw [show Tryz.prog.cellsOf 93=3 from by kernel_rfl] at hl
  obtain⟨c0,c1,c2,rfl⟩:∃c0 c1 c2,cs = [c0,c1,c2]:=ln_3 hl
  obtain⟨y0,y1,y2,rfl⟩:∃y0 y1 y2,xs = [y0,y1,y2]:=ln_3 hlen
  simp only [List.map,Rows.uptoBulk,Rows.uptoBulkAll] at hb
  have h0:DataW.trod enc Tryz.prog w base spare held n 3 (([c0,c1,c2].drop 0).take (Tryz.prog.cellsOf 3))=some y0:=hf 0 _ rfl
  rw [show Tryz.prog.cellsOf 3=1 from by kernel_rfl] at h0
  have h1:DataW.trod enc Tryz.prog w base spare held n 2 (([c0,c1,c2].drop 1).take (Tryz.prog.cellsOf 2))=some y1:=hf 1 _ rfl
  rw [show Tryz.prog.cellsOf 2=1 from by kernel_rfl] at h1
  have h2:DataW.trod enc Tryz.prog w base spare held n 2 (([c0,c1,c2].drop 2).take (Tryz.prog.cellsOf 2))=some y2:=hf 2 _ rfl
  rw [show Tryz.prog.cellsOf 2=1 from by kernel_rfl] at h2
  obtain⟨v0,g0,m0⟩:=(opens_i64 Tryz.underlying3) H enc w base spare held n _ _ h0 (nf_of (xs:=[y0,y1,y2]) hnf (by simp)) (by omega)
  obtain⟨e0,r0⟩:=g0
  simp only [List.drop,List.take,List.cons.injEq,and_true] at e0
  obtain rfl:=e0
  obtain⟨v1,g1,m1⟩:=(opens_i64 Tryz.underlying2) H enc w base spare held n _ _ h1 (nf_of (xs:=[y0,y1,y2]) hnf (by simp)) (by omega)
  obtain⟨e1,r1⟩:=g1
  simp only [List.drop,List.take,List.cons.injEq,and_true] at e1
  obtain rfl:=e1
  obtain⟨v2,g2,m2⟩:=(opens_i64 Tryz.underlying2) H enc w base spare held n _ _ h2 (nf_of (xs:=[y0,y1,y2]) hnf (by simp)) (by omega)
  obtain⟨e2,r2⟩:=g2
  simp only [List.drop,List.take,List.cons.injEq,and_true] at e2
  obtain rfl:=e2
  refine⟨⟨v0,v1,v2⟩,⟨rfl,r0,r1,r2⟩,?_⟩
  simp only [Span.bk,List.map,Rows.uptoBulk,Rows.uptoBulkAll]
  omega
theorem opens_89:Opens Tryz.prog 89 verT Ver.bk:=by
  intro H enc w base spare held fuel cs x h hnf hb
  obtain⟨xs,n,_,rfl,hl,hlen,hf⟩:=DataW.trod_struct Tryz.underlying89 h
  rw [show Tryz.prog.cellsOf 89=5 from by kernel_rfl] at hl
  obtain⟨c0,c1,c2,c3,c4,rfl⟩:∃c0 c1 c2 c3 c4,cs = [c0,c1,c2,c3,c4]:=ln_5 hl
  obtain⟨y0,y1,y2,y3,rfl⟩:∃y0 y1 y2 y3,xs = [y0,y1,y2,y3]:=ln_4 hlen
  simp only [List.map,Rows.uptoBulk,Rows.uptoBulkAll] at hb
  have h0:DataW.trod enc Tryz.prog w base spare held n 86 (([c0,c1,c2,c3,c4].drop 0).take (Tryz.prog.cellsOf 86))=some y0:=hf 0 _ rfl
  rw [show Tryz.prog.cellsOf 86=2 from by kernel_rfl] at h0
  have h1:DataW.trod enc Tryz.prog w base spare held n 87 (([c0,c1,c2,c3,c4].drop 2).take (Tryz.prog.cellsOf 87))=some y1:=hf 1 _ rfl
  rw [show Tryz.prog.cellsOf 87=1 from by kernel_rfl] at h1
  have h2:DataW.trod enc Tryz.prog w base spare held n 4 (([c0,c1,c2,c3,c4].drop 3).take (Tryz.prog.cellsOf 4))=some y2:=hf 2 _ rfl
  rw [show Tryz.prog.cellsOf 4=1 from by kernel_rfl] at h2
  have h3:DataW.trod enc Tryz.prog w base spare held n 9 (([c0,c1,c2,c3,c4].drop 4).take (Tryz.prog.cellsOf 9))=some y3:=hf 3 _ rfl
  rw [show Tryz.prog.cellsOf 9=1 from by kernel_rfl] at h3
  obtain⟨v0,g0,m0⟩:=opens_86 H enc w base spare held n _ _ h0 (nf_of (xs:=[y0,y1,y2,y3]) hnf (by simp)) (by omega)
  obtain⟨e0,r0_0,r0_1⟩:=g0
  simp only [Dot.cs,List.drop,List.take,List.cons.injEq,and_true] at e0
  obtain⟨rfl,rfl⟩:=e0
  obtain⟨v1,g1,m1⟩:=(opens_slice Tryz.underlying87 (by kernel_rfl) opens_93) H enc w base spare held n _ _ h1 (nf_of (xs:=[y0,y1,y2,y3]) hnf (by simp)) (by omega)
  obtain⟨A2,b2,e1,l1,s1⟩:=g1
  simp only [List.drop,List.take,List.cons.injEq,and_true] at e1
  obtain rfl:=e1
  obtain⟨v2,g2,m2⟩:=(opens_bool Tryz.underlying4) H enc w base spare held n _ _ h2 (nf_of (xs:=[y0,y1,y2,y3]) hnf (by simp)) (by omega)
  have e2:_=_:=g2
  simp only [List.drop,List.take,List.cons.injEq,and_true] at e2
  obtain rfl:=e2
  obtain⟨v3,g3,m3⟩:=(opens_str Tryz.underlying9) H enc w base spare held n _ _ h3 (nf_of (xs:=[y0,y1,y2,y3]) hnf (by simp)) (by omega)
  obtain⟨e3,r3⟩:=g3
  simp only [List.drop,List.take,List.cons.injEq,and_true] at e3
  obtain rfl:=e3
  refine⟨⟨v0,v1,v2,v3⟩,⟨A2,b2,rfl,r0_0,r0_1,⟨l1,s1⟩,r3⟩,?_⟩
  simp only [Ver.bk,List.map,Rows.uptoBulk,Rows.uptoBulkAll]
  omega
theorem opens_45:Opens Tryz.prog 45 recT Rec.bk:=by
  intro H enc w base spare held fuel cs x h hnf hb
  obtain⟨xs,n,_,rfl,hl,hlen,hf⟩:=DataW.trod_struct Tryz.underlying45 h
  rw [show Tryz.prog.cellsOf 45=2 from by kernel_rfl] at hl
  obtain⟨c0,c1,rfl⟩:∃c0 c1,cs = [c0,c1]:=ln_2 hl
  obtain⟨y0,y1,rfl⟩:∃y0 y1,xs = [y0,y1]:=ln_2 hlen
  simp only [List.map,Rows.uptoBulk,Rows.uptoBulkAll] at hb
  have h0:DataW.trod enc Tryz.prog w base spare held n 9 (([c0,c1].drop 0).take (Tryz.prog.cellsOf 9))=some y0:=hf 0 _ rfl
  rw [show Tryz.prog.cellsOf 9=1 from by kernel_rfl] at h0
  have h1:DataW.trod enc Tryz.prog w base spare held n 43 (([c0,c1].drop 1).take (Tryz.prog.cellsOf 43))=some y1:=hf 1 _ rfl
  rw [show Tryz.prog.cellsOf 43=1 from by kernel_rfl] at h1
  obtain⟨v0,g0,m0⟩:=(opens_str Tryz.underlying9) H enc w base spare held n _ _ h0 (nf_of (xs:=[y0,y1]) hnf (by simp)) (by omega)
  obtain⟨e0,r0⟩:=g0
  simp only [List.drop,List.take,List.cons.injEq,and_true] at e0
  obtain rfl:=e0
  obtain⟨v1,g1,m1⟩:=(opens_slice Tryz.underlying43 (by kernel_rfl) opens_89) H enc w base spare held n _ _ h1 (nf_of (xs:=[y0,y1]) hnf (by simp)) (by omega)
  obtain⟨A1,b1,e1,l1,s1⟩:=g1
  simp only [List.drop,List.take,List.cons.injEq,and_true] at e1
  obtain rfl:=e1
  refine⟨⟨v0,v1⟩,⟨A1,b1,rfl,r0,⟨l1,s1⟩⟩,?_⟩
  simp only [Rec.bk,List.map,Rows.uptoBulk,Rows.uptoBulkAll]
  omega
set_option maxRecDepth 100000 in
theorem NodeHints_contract(H:Type)(enc:TypeId×Value→H)(W:World)(base:Nat)(args:Array Value)(ds gs:List (DataW H))(before:List MemPlace)
    (hval:∀(j:Nat) t v,Tryz.f6.params[j]? = some t→args[j]? = some v→Value.okWide Tryz.prog W .any base t v)
    (hW:DataW.Whole enc Tryz.prog Tryz.f6.params.toList Rows.nodeHintsSpec.vars false W args.toList ds gs before) (hk:Rows.uptoSmall H (ds++gs)=true) :
    Calls Tryz.prog 6 args W λe W' => ∃v,e = .returned v∧Rows.nodeHintsSpec.post enc Tryz.prog Tryz.f6 false true false false W args v W':=by
  have hW':=hW
  have hlt:=λp hp=>hW.lt p hp
  obtain⟨p,q,hA0,hV,rfl,hfz,hnd⟩:=hW
  have hA:DataW.TrodAll enc Tryz.prog W 0 (λ_=>true) true Tryz.f6.params.toList args.toList ds p:=hA0
  rw [Tryz.params6] at hA hval
  obtain⟨v0,vs0,d0,ds0,p0,q0,hargs0,hd0,hp0,h0,r0⟩:=trodAll_cons hA
  obtain⟨v1,vs1,d1,ds1,p1,q1,hargs1,hd1,hp1,h1,r1⟩:=trodAll_cons r0
  obtain⟨v2,vs2,d2,ds2,p2,q2,hargs2,hd2,hp2,h2,r2⟩:=trodAll_cons r1
  obtain⟨hvn,hdn,hpn⟩:=trodAll_nil r2
  have hds:ds = [d0,d1,d2]:=by simp_all
  obtain rfl:args = #[v0,v1,v2]:=by cases args; simp_all
  subst hds
  obtain⟨hgs,hq⟩:=trodVars_none hV
  subst hgs
  have hbulk:=of_decide_eq_true hk
  simp only [List.append_nil] at hbulk
  have hb0:Rows.uptoBulk d0≤1048576:=Nat.le_trans (bulk_part (by simp)) hbulk
  obtain⟨fu0,hf0⟩:=h0
  have hnf0:W.noneFrozen p0:=λb off hm=>hfz b off (List.mem_append.2 (.inl (by rw [hp0]; exact List.mem_append.2 (.inl hm))))
  obtain⟨A0,n0,c0,rfl⟩:=WideShapes.okWide_slice Tryz.underlying22 (hval 0 22 v0 rfl rfl)
  obtain⟨list,⟨B0,e0,he0,hc0,hs0⟩,hm0⟩:=(opens_slice Tryz.underlying22 (by kernel_rfl) opens_45) H enc W _ _ _ _ _ _ hf0 hnf0 hb0
  obtain⟨rfl,rfl,rfl⟩:A0=B0∧n0=list.length∧c0=e0:=by simpa [Value.cells] using he0
  have hb1:Rows.uptoBulk d1≤1048576:=Nat.le_trans (bulk_part (by simp)) hbulk
  obtain⟨fu1,hf1⟩:=h1
  have hnf1:W.noneFrozen p1:=λb off hm=>hfz b off (List.mem_append.2 (.inl (by rw [hp0]; exact List.mem_append.2 (.inr (by rw [hp1]; exact List.mem_append.2 (.inl hm))))))
  obtain⟨lost,rfl⟩:=WideShapes.okWide_int Tryz.underlying5 (hval 1 5 v1 rfl rfl)
  obtain⟨x1,he1,_⟩:=(opens_u8 Tryz.underlying5) H enc W _ _ _ _ _ _ hf1 hnf1 hb1
  obtain rfl:lost=(x1.toNat:Int):=by have he:_=_:=he1; simpa [Value.cells] using he
  have hb2:Rows.uptoBulk d2≤1048576:=Nat.le_trans (bulk_part (by simp)) hbulk
  obtain⟨fu2,hf2⟩:=h2
  have hnf2:W.noneFrozen p2:=λb off hm=>hfz b off (List.mem_append.2 (.inl (by rw [hp0]; exact List.mem_append.2 (.inr (by rw [hp1]; exact List.mem_append.2 (.inr (by rw [hp2]; exact List.mem_append.2 (.inl hm))))))))
  obtain⟨cs2,rfl⟩:=okWide_arr Tryz.underlying56 (hval 2 56 v2 rfl rfl)
  obtain⟨ys2,hl2,he2,hx2⟩:=opens_arr_i64 Tryz.underlying56 Tryz.underlying3 (by kernel_rfl) (by kernel_rfl) hf2
  obtain⟨fate0,fate1,rfl⟩:=ln_2 hl2
  obtain rfl:cs2 = #[.int .i64 fate0,.int .i64 fate1]:=by cases cs2; simpa [Value.cells] using he2
  refine(t_firthlaw15_NodeHints (Γ:=Gh.all W) hs0 hc0 (x1.toNat:Int) (b_r x1) fate0 (hx2 fate0 (by simp)) fate1 (hx2 fate1 (by simp)) (Sat.all W) (p_firthlaw15_NodeHints (Γ:=Gh.all W) hs0 hc0 (x1.toNat:Int) (b_r x1) fate0 (hx2 fate0 (by simp)) fate1 (hx2 fate1 (by simp)) (Nat.le_trans hm0 hb0))).mono λe W' ⟨he,hf⟩=>?_
  subst he
  exact⟨_,rfl,post_of_below (pa:=p) (pv:=[]) hW' (λ_ _ _=>(trodAll_cons_mk (shut_bool Tryz.underlying4 _) trodAll_mk0)) (λsp hsp=>trodAll_below laidOut_ hf.below (by kernel_rfl) hA0 (λx hx=>hlt x (List.mem_append.2 (.inl hx))) sp (λx hx=>hsp x (List.mem_append.2 (.inl hx)))) (λ_ _=>rfl) (by rw [hq]) hf.below (ok_one (by kernel_rfl) rfl (okWide_bool_mk Tryz.underlying4 _))⟩
set_option maxRecDepth 100000 in
theorem NodeHints_lifted(os:Os)(started:os.Started)(H:Type)(enc:TypeId×Value→H)(F:Stop.Interp):
    ReturnsInHanded {} Tryz.checked os 6 .any ((Rows.OpenSpec.upto Rows.nodeHintsSpec).pre6 enc Tryz.prog Tryz.f6 Rows.nodeHintsUptoRow.domain false) (((Rows.OpenSpec.upto Rows.nodeHintsSpec).at F).post enc Tryz.prog Tryz.f6 false true false false):=by
  refine returnsInHanded_of_cond (C:=Tryz.checked) (s:=Rows.OpenSpec.upto Rows.nodeHintsSpec) (k:=Rows.uptoSmall) rfl own_ started (by kernel_rfl) Tryz.func6
    (OpenSpec.witness (enc:=enc) (C:=Tryz.checked) (s:=Rows.OpenSpec.upto Rows.nodeHintsSpec) (k:=Rows.uptoSmall) rfl false ⟨#[], #[.slice none 0 0,.int .u8 0,.agg #[.int .i64 0,.int .i64 0]],[]⟩ 8 (by kernel_rfl) (by kernel_rfl) (by kernel_rfl)
      (x:=([.nil,.lit (.int .u8 0),.agg [.lit (.int .i64 0),.lit (.int .i64 0)]],[],[])) (by kernel_rfl) rfl (by kernel_rfl)) ?_
  intro W base args ds gs before hval hW _ hk _
  exact NodeHints_contract H enc W base args ds gs before hval hW hk
theorem NodeHints_over:Rows.nodeHintsUptoRow.holds Tryz.pinned (Rows.OpenSpec.upto Rows.nodeHintsSpec):=
  OpenClaim.holds_of_cond 6 Tryz.f6 rfl rfl rfl rfl rfl rfl rfl ⟨rfl,rfl,rfl,rfl,rfl⟩ rfl rfl rfl rfl rfl (by kernel_rfl) Tryz.func6 (by kernel_rfl)
    (of_decide_eq_true (by kernel_rfl)) (by unfold Func.isWrapper; first | (rw [if_pos (by decide +kernel)]; kernel_rfl) | (rw [if_neg (by decide +kernel)]; exact⟨rfl,rfl⟩))
    (λos started H enc _ F=>NodeHints_lifted os started H enc F)
theorem NodeHints_proved:Rows.NodeHintsUptoSaid:=NodeHints_over
end Fw
theorem NodeHints_holds:Rows.NodeHintsUptoSaid:=Fw.NodeHints_proved
end Go.Proofs.YtckindfllegbgaaGreat
