/- The law QueueKeeps, as it is given: the whole row. No condition. -/
import Derived.Test.YtangaamigenjjaaGreatW4
import Derived.Test.YtangaamigenjjaaGreatPJ2
import Derived.Test.YtangaamigenjjaaGreatK11
namespace Go.Proofs.YtangaamigenjjaaGreat
namespace Fw
set_option linter.unusedVariables false
set_option linter.unusedSimpArgs false
set_option linter.unusedSectionVars false
open Go.RowKit Go.ChangeShapes
theorem own_:ownKnob Tryz.prog.godebug=none:=by kernel_rfl
theorem yT:laidOutB Tryz.prog=true:=by kernel_rfl
set_option maxRecDepth 100000 in
theorem nv(H:Type)(enc:TypeId×Value→H)(W:World)(base:Nat)(args:Array Value)(ds gs:List (DataW H))(before:List MemPlace)
    (hval:∀(j:Nat) t v,Tryz.f3.params[j]? = some t→args[j]? = some v→Value.okWide Tryz.prog W .any base t v)
    (hW:DataW.Whole enc Tryz.prog Tryz.f3.params.toList Rows.queueKeepsSpec.vars false W args.toList ds gs before) (hk:Rows.uptoSmall H (ds++gs)=true) :
    Calls Tryz.prog 3 args W λe W' => ∃v,e = .returned v∧Rows.queueKeepsSpec.post enc Tryz.prog Tryz.f3 false true false false W args v W':=by
  have hW':=hW
  have hlt:=λp hp=>hW.lt p hp
  obtain⟨p,q,hA0,hV,rfl,hfz,hnd⟩:=hW
  have hA:DataW.TrodAll enc Tryz.prog W 0 (λ_=>true) true Tryz.f3.params.toList args.toList ds p:=hA0
  rw [Tryz.params3] at hA hval
  obtain⟨v0,vs0,d0,ds0,p0,q0,hargs0,hd0,hp0,h0,r0⟩:=trodAll_cons hA
  obtain⟨v1,vs1,d1,ds1,p1,q1,hargs1,hd1,hp1,h1,r1⟩:=trodAll_cons r0
  obtain⟨v2,vs2,d2,ds2,p2,q2,hargs2,hd2,hp2,h2,r2⟩:=trodAll_cons r1
  obtain⟨hvn,hdn,hpn⟩:=trodAll_nil r2
  have hds:ds = [d0,d1,d2]:=by simp_all
  obtain rfl:args = #[v0,v1,v2]:=by cases args; simp_all
  subst hds
  obtain⟨hgs,hq⟩:=trodVars_none hV
  subst hgs
  have hbulk:=Cl hk
  simp only [CI] at hbulk
  have hb0:Rows.uptoBulk d0≤1048576:=Nat.le_trans (nc (by simp)) hbulk
  obtain⟨fu0,hf0⟩:=h0
  have hnf0:W.noneFrozen p0:=λb off hm=>hfz b off (List.mem_append.2 (.inl (by rw [hp0]; exact List.mem_append.2 (.inl hm))))
  obtain⟨key,rfl⟩:=WideShapes.okWide_string Tryz.underlying9 (hval 0 9 v0 rfl rfl)
  obtain⟨x0,⟨he0,hx0⟩,_⟩:=(rV Tryz.underlying9) H enc W _ _ _ _ _ _ hf0 hnf0 hb0
  obtain rfl:key=x0:=by simpa [Value.cells] using he0
  have hb1:Rows.uptoBulk d1≤1048576:=Nat.le_trans (nc (by simp)) hbulk
  obtain⟨fu1,hf1⟩:=h1
  have hnf1:W.noneFrozen p1:=λb off hm=>hfz b off (List.mem_append.2 (.inl (by rw [hp0]; exact List.mem_append.2 (.inr (by rw [hp1]; exact List.mem_append.2 (.inl hm))))))
  obtain⟨val,rfl⟩:=WideShapes.okWide_string Tryz.underlying9 (hval 1 9 v1 rfl rfl)
  obtain⟨x1,⟨he1,hx1⟩,_⟩:=(rV Tryz.underlying9) H enc W _ _ _ _ _ _ hf1 hnf1 hb1
  obtain rfl:val=x1:=by simpa [Value.cells] using he1
  have hb2:Rows.uptoBulk d2≤1048576:=Nat.le_trans (nc (by simp)) hbulk
  obtain⟨fu2,hf2⟩:=h2
  have hnf2:W.noneFrozen p2:=λb off hm=>hfz b off (List.mem_append.2 (.inl (by rw [hp0]; exact List.mem_append.2 (.inr (by rw [hp1]; exact List.mem_append.2 (.inr (by rw [hp2]; exact List.mem_append.2 (.inl hm))))))))
  obtain⟨A2,n2,c2,rfl⟩:=WideShapes.okWide_slice Tryz.underlying22 (hval 2 22 v2 rfl rfl)
  obtain⟨route,⟨B2,e2,he2,hc2,hs2⟩,hm2⟩:=(u9 Tryz.underlying22 (by kernel_rfl) (wT Tryz.underlying3)) H enc W _ _ _ _ _ _ hf2 hnf2 hb2
  obtain⟨rfl,rfl,rfl⟩:A2=B2∧n2=route.length∧c2=e2:=by simpa [Value.cells] using he2
  refine(l4 (Γ:=Gh.all W) key hx0 val hx1 hs2 hc2 (Sat.all W) (l0 (Γ:=Gh.all W) key hx0 val hx1 hs2 hc2 (Nat.le_trans hm2 hb2))).mono λe W' ⟨he,hf⟩=>?_
  subst he
  exact⟨_,rfl,rH (pa:=p) (pv:=[]) hW' (λ_ _ _=>(trodAll_cons_mk (shut_bool Tryz.underlying4 _) trodAll_mk0)) (λsp hsp=>nz yT hf.below (by kernel_rfl) hA0 (λx hx=>hlt x (List.mem_append.2 (.inl hx))) sp (λx hx=>hsp x (List.mem_append.2 (.inl hx)))) (λ_ _=>rfl) (by rw [hq]) hf.below (ok_one (by kernel_rfl) rfl (okWide_bool_mk Tryz.underlying4 _))⟩
set_option maxRecDepth 100000 in
theorem om(os:Os)(started:os.Started)(H:Type)(enc:TypeId×Value→H)(F:Stop.Interp):
    ReturnsInHanded {} Tryz.checked os 3 .any ((Rows.OpenSpec.upto Rows.queueKeepsSpec).pre6 enc Tryz.prog Tryz.f3 Rows.queueKeepsUptoRow.domain false) (((Rows.OpenSpec.upto Rows.queueKeepsSpec).at F).post enc Tryz.prog Tryz.f3 false true false false):=by
  refine returnsInHanded_of_cond (C:=Tryz.checked) (s:=Rows.OpenSpec.upto Rows.queueKeepsSpec) (k:=Rows.uptoSmall) rfl own_ started (by kernel_rfl) Tryz.func3
    (OpenSpec.witness (enc:=enc) (C:=Tryz.checked) (s:=Rows.OpenSpec.upto Rows.queueKeepsSpec) (k:=Rows.uptoSmall) rfl false ⟨#[], #[.string ⟨#[]⟩,.string ⟨#[]⟩,.slice none 0 0],[]⟩ 8 (by kernel_rfl) (by kernel_rfl) (by kernel_rfl)
      (x:=([.lit (.string []),.lit (.string []),.nil],[],[])) (by kernel_rfl) rfl (by kernel_rfl)) ?_
  intro W base args ds gs before hval hW _ hk _
  exact nv H enc W base args ds gs before hval hW hk
theorem qj:Rows.queueKeepsUptoRow.holds Tryz.pinned (Rows.OpenSpec.upto Rows.queueKeepsSpec):=
  OpenClaim.holds_of_cond 3 Tryz.f3 rfl rfl rfl rfl rfl rfl rfl ⟨rfl,rfl,rfl,rfl,rfl⟩ rfl rfl rfl rfl rfl (by kernel_rfl) Tryz.func3 (by kernel_rfl)
    (Cl (by kernel_rfl)) (by unfold Func.isWrapper; first | (rw [if_pos (by decide +kernel)]; kernel_rfl) | (rw [if_neg (by decide +kernel)]; exact⟨rfl,rfl⟩))
    (λos started H enc _ F=>om os started H enc F)
theorem QueueKeeps_proved:Rows.QueueKeepsUptoSaid:=qj
end Fw
theorem QueueKeeps_holds:Rows.QueueKeepsUptoSaid:=Fw.QueueKeeps_proved
end Go.Proofs.YtangaamigenjjaaGreat
