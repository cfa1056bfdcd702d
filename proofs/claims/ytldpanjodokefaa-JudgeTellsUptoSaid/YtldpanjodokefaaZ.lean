/- The law JudgeTells, as it is given: the whole row. No condition. -/
import Derived.Test.YtldpanjodokefaaW2
import Derived.Test.YtldpanjodokefaaP11
import Derived.Test.YtldpanjodokefaaK11
namespace Go.Proofs.Ytldpanjodokefaa
namespace Fw
set_option linter.unusedVariables false
set_option linter.unusedSimpArgs false
set_option linter.unusedSectionVars false
open Go.RowKit Go.ChangeShapes
theorem own_ : ownKnob Try.prog.godebug = none := by kernel_rfl
theorem laidOut_ : laidOutB Try.prog = true := by kernel_rfl

set_option maxRecDepth 100000 in
theorem JudgeTells_contract (H : Type) (enc : TypeId × Value → H) (W : World) (base : Nat) (args : Array Value) (ds gs : List (DataW H)) (before : List MemPlace)
    (hval : ∀ (j : Nat) t v, Try.f3.params[j]? = some t → args[j]? = some v → Value.okWide Try.prog W .any base t v)
    (hW : DataW.Whole enc Try.prog Try.f3.params.toList Rows.judgeTellsSpec.vars false W args.toList ds gs before) (hk : Rows.uptoSmall H (ds ++ gs) = true) :
    Calls Try.prog 3 args W fun e W' => ∃ v, e = .returned v ∧ Rows.judgeTellsSpec.post enc Try.prog Try.f3 false true false false W args v W' := by
  have hW' := hW
  have hlt := fun p hp => hW.lt p hp
  obtain ⟨p, q, hA0, hV, rfl, hfz, hnd⟩ := hW
  have hA : DataW.TrodAll enc Try.prog W 0 (fun _ => true) true Try.f3.params.toList args.toList ds p := hA0
  rw [Try.params3] at hA hval
  obtain ⟨v0, vs0, d0, ds0, p0, q0, hargs0, hd0, hp0, h0, r0⟩ := trodAll_cons hA
  obtain ⟨v1, vs1, d1, ds1, p1, q1, hargs1, hd1, hp1, h1, r1⟩ := trodAll_cons r0
  obtain ⟨v2, vs2, d2, ds2, p2, q2, hargs2, hd2, hp2, h2, r2⟩ := trodAll_cons r1
  obtain ⟨hvn, hdn, hpn⟩ := trodAll_nil r2
  have hds : ds = [d0, d1, d2] := by simp_all
  obtain rfl : args = #[v0, v1, v2] := by cases args; simp_all
  subst hds
  obtain ⟨hgs, hq⟩ := trodVars_none hV
  subst hgs
  have hbulk := of_decide_eq_true hk
  simp only [List.append_nil] at hbulk
  have hb0 : Rows.uptoBulk d0 ≤ 1048576 := Nat.le_trans (bulk_part (by simp)) hbulk
  obtain ⟨fu0, hf0⟩ := h0
  have hnf0 : W.noneFrozen p0 := fun b off hm => hfz b off (List.mem_append.2 (.inl (by rw [hp0]; exact List.mem_append.2 (.inl hm))))
  obtain ⟨A0, n0, c0, rfl⟩ := WideShapes.okWide_slice Try.underlying22 (hval 0 22 v0 rfl rfl)
  obtain ⟨sites, ⟨B0, e0, he0, hc0, hs0⟩, hm0⟩ := (opens_slice Try.underlying22 (by kernel_rfl) (opens_u8 Try.underlying5)) H enc W _ _ _ _ _ _ hf0 hnf0 hb0
  obtain ⟨rfl, rfl, rfl⟩ : A0 = B0 ∧ n0 = sites.length ∧ c0 = e0 := by simpa [Value.cells] using he0
  have hb1 : Rows.uptoBulk d1 ≤ 1048576 := Nat.le_trans (bulk_part (by simp)) hbulk
  obtain ⟨fu1, hf1⟩ := h1
  have hnf1 : W.noneFrozen p1 := fun b off hm => hfz b off (List.mem_append.2 (.inl (by rw [hp0]; exact List.mem_append.2 (.inr (by rw [hp1]; exact List.mem_append.2 (.inl hm))))))
  obtain ⟨A1, n1, c1, rfl⟩ := WideShapes.okWide_slice Try.underlying22 (hval 1 22 v1 rfl rfl)
  obtain ⟨keys, ⟨B1, e1, he1, hc1, hs1⟩, hm1⟩ := (opens_slice Try.underlying22 (by kernel_rfl) (opens_u8 Try.underlying5)) H enc W _ _ _ _ _ _ hf1 hnf1 hb1
  obtain ⟨rfl, rfl, rfl⟩ : A1 = B1 ∧ n1 = keys.length ∧ c1 = e1 := by simpa [Value.cells] using he1
  have hb2 : Rows.uptoBulk d2 ≤ 1048576 := Nat.le_trans (bulk_part (by simp)) hbulk
  obtain ⟨fu2, hf2⟩ := h2
  have hnf2 : W.noneFrozen p2 := fun b off hm => hfz b off (List.mem_append.2 (.inl (by rw [hp0]; exact List.mem_append.2 (.inr (by rw [hp1]; exact List.mem_append.2 (.inr (by rw [hp2]; exact List.mem_append.2 (.inl hm))))))))
  obtain ⟨at_, rfl⟩ := WideShapes.okWide_int Try.underlying3 (hval 2 3 v2 rfl rfl)
  obtain ⟨x2, ⟨he2, hx2⟩, _⟩ := (opens_i64 Try.underlying3) H enc W _ _ _ _ _ _ hf2 hnf2 hb2
  obtain rfl : at_ = x2 := by simpa [Value.cells] using he2
  refine (t_firthlaw23_JudgeTells (Γ := Gh.all W) hs0 hc0 hs1 hc1 at_ hx2 (Sat.all W) (p_firthlaw23_JudgeTells (Γ := Gh.all W) hs0 hc0 hs1 hc1 at_ hx2 (Nat.le_trans hm0 hb0) (Nat.le_trans hm1 hb1))).mono fun e W' ⟨he, hf⟩ => ?_
  subst he
  exact ⟨_, rfl, post_of_below (pa := p) (pv := []) hW' (fun _ _ _ => (trodAll_cons_mk (shut_bool Try.underlying4 _) trodAll_mk0)) (fun sp hsp => trodAll_below laidOut_ hf.below (by kernel_rfl) hA0 (fun x hx => hlt x (List.mem_append.2 (.inl hx))) sp (fun x hx => hsp x (List.mem_append.2 (.inl hx)))) (fun _ _ => rfl) (by rw [hq]) hf.below (ok_one (by kernel_rfl) rfl (okWide_bool_mk Try.underlying4 _))⟩
set_option maxRecDepth 100000 in
theorem JudgeTells_lifted (os : Os) (started : os.Started) (H : Type) (enc : TypeId × Value → H) (F : Stop.Interp) :
    ReturnsInHanded {} Try.checked os 3 .any ((Rows.OpenSpec.upto Rows.judgeTellsSpec).pre6 enc Try.prog Try.f3 Rows.judgeTellsUptoRow.domain false) (((Rows.OpenSpec.upto Rows.judgeTellsSpec).at F).post enc Try.prog Try.f3 false true false false) := by
  refine returnsInHanded_of_cond (C := Try.checked) (s := Rows.OpenSpec.upto Rows.judgeTellsSpec) (k := Rows.uptoSmall) rfl own_ started (by kernel_rfl) Try.func3
    (OpenSpec.witness (enc := enc) (C := Try.checked) (s := Rows.OpenSpec.upto Rows.judgeTellsSpec) (k := Rows.uptoSmall) rfl false ⟨#[], #[.slice none 0 0, .slice none 0 0, .int .i64 0], []⟩ 8 (by kernel_rfl) (by kernel_rfl) (by kernel_rfl)
      (x := ([.nil, .nil, .lit (.int .i64 0)], [], [])) (by kernel_rfl) rfl (by kernel_rfl)) ?_
  intro W base args ds gs before hval hW _ hk _
  exact JudgeTells_contract H enc W base args ds gs before hval hW hk
theorem JudgeTells_over : Rows.judgeTellsUptoRow.holds Try.pinned (Rows.OpenSpec.upto Rows.judgeTellsSpec) :=
  OpenClaim.holds_of_cond 3 Try.f3 rfl rfl rfl rfl rfl rfl rfl ⟨rfl, rfl, rfl, rfl, rfl⟩ rfl rfl rfl rfl rfl (by kernel_rfl) Try.func3 (by kernel_rfl)
    (of_decide_eq_true (by kernel_rfl)) (by unfold Func.isWrapper; first | (rw [if_pos (by decide +kernel)]; kernel_rfl) | (rw [if_neg (by decide +kernel)]; exact ⟨rfl, rfl⟩))
    (fun os started H enc _ F => JudgeTells_lifted os started H enc F)
theorem JudgeTells_proved : Rows.JudgeTellsUptoSaid := JudgeTells_over
end Fw
theorem JudgeTells_holds : Rows.JudgeTellsUptoSaid := Fw.JudgeTells_proved
end Go.Proofs.Ytldpanjodokefaa
