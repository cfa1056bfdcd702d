/- The law JudgeFinds, as it is given: the whole row. No condition. -/
import Derived.Test.YtldpanjodokefaaW2
import Derived.Test.YtldpanjodokefaaP11
import Derived.Test.YtldpanjodokefaaK11
namespace Go.Proofs.Ytldpanjodokefaa
namespace Fw
set_option linter.unusedVariables false
set_option linter.unusedSimpArgs false
set_option linter.unusedSectionVars false
open Go.RowKit Go.ChangeShapes
theorem own_ : ownKnob Try.prog.godebug = none := by kernel_rfl
theorem laidOut_ : laidOutB Try.prog = true := by kernel_rfl
theorem ln_2 {α : Type} {cs : List α} (h : cs.length = 2) : ∃ c0 c1, cs = [c0, c1] := by
  match cs, h with | [c0, c1], _ => exact ⟨_, _, rfl⟩
theorem ln_7 {α : Type} {cs : List α} (h : cs.length = 7) : ∃ c0 c1 c2 c3 c4 c5 c6, cs = [c0, c1, c2, c3, c4, c5, c6] := by
  match cs, h with | [c0, c1, c2, c3, c4, c5, c6], _ => exact ⟨_, _, _, _, _, _, _, rfl⟩
theorem ln_8 {α : Type} {cs : List α} (h : cs.length = 8) : ∃ c0 c1 c2 c3 c4 c5 c6 c7, cs = [c0, c1, c2, c3, c4, c5, c6, c7] := by
  match cs, h with | [c0, c1, c2, c3, c4, c5, c6, c7], _ => exact ⟨_, _, _, _, _, _, _, _, rfl⟩
theorem opens_27 : Opens Try.prog 27 dotT Dot.bk := by
  intro H enc w base spare held fuel cs x h hnf hb
  obtain ⟨xs, n, _, rfl, hl, hlen, hf⟩ := DataW.trod_struct Try.underlying27 h
  rw [show Try.prog.cellsOf 27 = 2 from by kernel_rfl] at hl
  obtain ⟨c0, c1, rfl⟩ : ∃ c0 c1, cs = [c0, c1] := ln_2 hl
  obtain ⟨y0, y1, rfl⟩ : ∃ y0 y1, xs = [y0, y1] := ln_2 hlen
  simp only [List.map, Rows.uptoBulk, Rows.uptoBulkAll] at hb
  have h0 : DataW.trod enc Try.prog w base spare held n 3 (([c0, c1].drop 0).take (Try.prog.cellsOf 3)) = some y0 := hf 0 _ rfl
  rw [show Try.prog.cellsOf 3 = 1 from by kernel_rfl] at h0
  have h1 : DataW.trod enc Try.prog w base spare held n 2 (([c0, c1].drop 1).take (Try.prog.cellsOf 2)) = some y1 := hf 1 _ rfl
  rw [show Try.prog.cellsOf 2 = 1 from by kernel_rfl] at h1
  obtain ⟨v0, g0, m0⟩ := (opens_i64 Try.underlying3) H enc w base spare held n _ _ h0 (nf_of (xs := [y0, y1]) hnf (by simp)) (by omega)
  obtain ⟨e0, r0⟩ := g0
  simp only [List.drop, List.take, List.cons.injEq, and_true] at e0
  obtain rfl := e0
  obtain ⟨v1, g1, m1⟩ := (opens_i64 Try.underlying2) H enc w base spare held n _ _ h1 (nf_of (xs := [y0, y1]) hnf (by simp)) (by omega)
  obtain ⟨e1, r1⟩ := g1
  simp only [List.drop, List.take, List.cons.injEq, and_true] at e1
  obtain rfl := e1
  refine ⟨⟨v0, v1⟩, ⟨rfl, r0, r1⟩, ?_⟩
  simp only [Dot.bk, List.map, Rows.uptoBulk, Rows.uptoBulkAll]
  omega
theorem opens_32 : Opens Try.prog 32 djudge_ActT Djudge_Act.bk := by
  intro H enc w base spare held fuel cs x h hnf hb
  obtain ⟨xs, n, _, rfl, hl, hlen, hf⟩ := DataW.trod_struct Try.underlying32 h
  rw [show Try.prog.cellsOf 32 = 8 from by kernel_rfl] at hl
  obtain ⟨c0, c1, c2, c3, c4, c5, c6, c7, rfl⟩ : ∃ c0 c1 c2 c3 c4 c5 c6 c7, cs = [c0, c1, c2, c3, c4, c5, c6, c7] := ln_8 hl
  obtain ⟨y0, y1, y2, y3, y4, y5, y6, rfl⟩ : ∃ y0 y1 y2 y3 y4 y5 y6, xs = [y0, y1, y2, y3, y4, y5, y6] := ln_7 hlen
  simp only [List.map, Rows.uptoBulk, Rows.uptoBulkAll] at hb
  have h0 : DataW.trod enc Try.prog w base spare held n 4 (([c0, c1, c2, c3, c4, c5, c6, c7].drop 0).take (Try.prog.cellsOf 4)) = some y0 := hf 0 _ rfl
  rw [show Try.prog.cellsOf 4 = 1 from by kernel_rfl] at h0
  have h1 : DataW.trod enc Try.prog w base spare held n 3 (([c0, c1, c2, c3, c4, c5, c6, c7].drop 1).take (Try.prog.cellsOf 3)) = some y1 := hf 1 _ rfl
  rw [show Try.prog.cellsOf 3 = 1 from by kernel_rfl] at h1
  have h2 : DataW.trod enc Try.prog w base spare held n 9 (([c0, c1, c2, c3, c4, c5, c6, c7].drop 2).take (Try.prog.cellsOf 9)) = some y2 := hf 2 _ rfl
  rw [show Try.prog.cellsOf 9 = 1 from by kernel_rfl] at h2
  have h3 : DataW.trod enc Try.prog w base spare held n 27 (([c0, c1, c2, c3, c4, c5, c6, c7].drop 3).take (Try.prog.cellsOf 27)) = some y3 := hf 3 _ rfl
  rw [show Try.prog.cellsOf 27 = 2 from by kernel_rfl] at h3
  have h4 : DataW.trod enc Try.prog w base spare held n 4 (([c0, c1, c2, c3, c4, c5, c6, c7].drop 5).take (Try.prog.cellsOf 4)) = some y4 := hf 4 _ rfl
  rw [show Try.prog.cellsOf 4 = 1 from by kernel_rfl] at h4
  have h5 : DataW.trod enc Try.prog w base spare held n 29 (([c0, c1, c2, c3, c4, c5, c6, c7].drop 6).take (Try.prog.cellsOf 29)) = some y5 := hf 5 _ rfl
  rw [show Try.prog.cellsOf 29 = 1 from by kernel_rfl] at h5
  have h6 : DataW.trod enc Try.prog w base spare held n 30 (([c0, c1, c2, c3, c4, c5, c6, c7].drop 7).take (Try.prog.cellsOf 30)) = some y6 := hf 6 _ rfl
  rw [show Try.prog.cellsOf 30 = 1 from by kernel_rfl] at h6
  obtain ⟨v0, g0, m0⟩ := (opens_bool Try.underlying4) H enc w base spare held n _ _ h0 (nf_of (xs := [y0, y1, y2, y3, y4, y5, y6]) hnf (by simp)) (by omega)
  have e0 : _ = _ := g0
  simp only [List.drop, List.take, List.cons.injEq, and_true] at e0
  obtain rfl := e0
  obtain ⟨v1, g1, m1⟩ := (opens_i64 Try.underlying3) H enc w base spare held n _ _ h1 (nf_of (xs := [y0, y1, y2, y3, y4, y5, y6]) hnf (by simp)) (by omega)
  obtain ⟨e1, r1⟩ := g1
  simp only [List.drop, List.take, List.cons.injEq, and_true] at e1
  obtain rfl := e1
  obtain ⟨v2, g2, m2⟩ := (opens_str Try.underlying9) H enc w base spare held n _ _ h2 (nf_of (xs := [y0, y1, y2, y3, y4, y5, y6]) hnf (by simp)) (by omega)
  obtain ⟨e2, r2⟩ := g2
  simp only [List.drop, List.take, List.cons.injEq, and_true] at e2
  obtain rfl := e2
  obtain ⟨v3, g3, m3⟩ := opens_27 H enc w base spare held n _ _ h3 (nf_of (xs := [y0, y1, y2, y3, y4, y5, y6]) hnf (by simp)) (by omega)
  obtain ⟨e3, r3_0, r3_1⟩ := g3
  simp only [Dot.cs, List.drop, List.take, List.cons.injEq, and_true] at e3
  obtain ⟨rfl, rfl⟩ := e3
  obtain ⟨v4, g4, m4⟩ := (opens_bool Try.underlying4) H enc w base spare held n _ _ h4 (nf_of (xs := [y0, y1, y2, y3, y4, y5, y6]) hnf (by simp)) (by omega)
  have e4 : _ = _ := g4
  simp only [List.drop, List.take, List.cons.injEq, and_true] at e4
  obtain rfl := e4
  obtain ⟨v5, g5, m5⟩ := (opens_slice Try.underlying29 (by kernel_rfl) opens_27) H enc w base spare held n _ _ h5 (nf_of (xs := [y0, y1, y2, y3, y4, y5, y6]) hnf (by simp)) (by omega)
  obtain ⟨A6, b6, e5, l5, s5⟩ := g5
  simp only [List.drop, List.take, List.cons.injEq, and_true] at e5
  obtain rfl := e5
  obtain ⟨v6, g6, m6⟩ := (opens_slice Try.underlying30 (by kernel_rfl) (opens_i64 Try.underlying2)) H enc w base spare held n _ _ h6 (nf_of (xs := [y0, y1, y2, y3, y4, y5, y6]) hnf (by simp)) (by omega)
  obtain ⟨A7, b7, e6, l6, s6⟩ := g6
  simp only [List.drop, List.take, List.cons.injEq, and_true] at e6
  obtain rfl := e6
  refine ⟨⟨v0, v1, v2, v3, v4, v5, v6⟩, ⟨A6, b6, A7, b7, rfl, r1, r2, r3_0, r3_1, ⟨l5, s5⟩, ⟨l6, s6⟩⟩, ?_⟩
  simp only [Djudge_Act.bk, List.map, Rows.uptoBulk, Rows.uptoBulkAll]
  omega
set_option maxRecDepth 100000 in
theorem JudgeFinds_contract (H : Type) (enc : TypeId × Value → H) (W : World) (base : Nat) (args : Array Value) (ds gs : List (DataW H)) (before : List MemPlace)
    (hval : ∀ (j : Nat) t v, Try.f5.params[j]? = some t → args[j]? = some v → Value.okWide Try.prog W .any base t v)
    (hW : DataW.Whole enc Try.prog Try.f5.params.toList Rows.judgeFindsSpec.vars false W args.toList ds gs before) (hk : Rows.uptoSmall H (ds ++ gs) = true) :
    Calls Try.prog 5 args W fun e W' => ∃ v, e = .returned v ∧ Rows.judgeFindsSpec.post enc Try.prog Try.f5 false true false false W args v W' := by
  have hW' := hW
  have hlt := fun p hp => hW.lt p hp
  obtain ⟨p, q, hA0, hV, rfl, hfz, hnd⟩ := hW
  have hA : DataW.TrodAll enc Try.prog W 0 (fun _ => true) true Try.f5.params.toList args.toList ds p := hA0
  rw [Try.params5] at hA hval
  obtain ⟨v0, vs0, d0, ds0, p0, q0, hargs0, hd0, hp0, h0, r0⟩ := trodAll_cons hA
  obtain ⟨v1, vs1, d1, ds1, p1, q1, hargs1, hd1, hp1, h1, r1⟩ := trodAll_cons r0
  obtain ⟨v2, vs2, d2, ds2, p2, q2, hargs2, hd2, hp2, h2, r2⟩ := trodAll_cons r1
  obtain ⟨hvn, hdn, hpn⟩ := trodAll_nil r2
  have hds : ds = [d0, d1, d2] := by simp_all
  obtain rfl : args = #[v0, v1, v2] := by cases args; simp_all
  subst hds
  obtain ⟨hgs, hq⟩ := trodVars_none hV
  subst hgs
  have hbulk := of_decide_eq_true hk
  simp only [List.append_nil] at hbulk
  have hb0 : Rows.uptoBulk d0 ≤ 1048576 := Nat.le_trans (bulk_part (by simp)) hbulk
  obtain ⟨fu0, hf0⟩ := h0
  have hnf0 : W.noneFrozen p0 := fun b off hm => hfz b off (List.mem_append.2 (.inl (by rw [hp0]; exact List.mem_append.2 (.inl hm))))
  obtain ⟨A0, n0, c0, rfl⟩ := WideShapes.okWide_slice Try.underlying24 (hval 0 24 v0 rfl rfl)
  obtain ⟨list, ⟨B0, e0, he0, hc0, hs0⟩, hm0⟩ := (opens_slice Try.underlying24 (by kernel_rfl) opens_32) H enc W _ _ _ _ _ _ hf0 hnf0 hb0
  obtain ⟨rfl, rfl, rfl⟩ : A0 = B0 ∧ n0 = list.length ∧ c0 = e0 := by simpa [Value.cells] using he0
  have hb1 : Rows.uptoBulk d1 ≤ 1048576 := Nat.le_trans (bulk_part (by simp)) hbulk
  obtain ⟨fu1, hf1⟩ := h1
  have hnf1 : W.noneFrozen p1 := fun b off hm => hfz b off (List.mem_append.2 (.inl (by rw [hp0]; exact List.mem_append.2 (.inr (by rw [hp1]; exact List.mem_append.2 (.inl hm))))))
  obtain ⟨which, rfl⟩ := WideShapes.okWide_int Try.underlying3 (hval 1 3 v1 rfl rfl)
  obtain ⟨x1, ⟨he1, hx1⟩, _⟩ := (opens_i64 Try.underlying3) H enc W _ _ _ _ _ _ hf1 hnf1 hb1
  obtain rfl : which = x1 := by simpa [Value.cells] using he1
  have hb2 : Rows.uptoBulk d2 ≤ 1048576 := Nat.le_trans (bulk_part (by simp)) hbulk
  obtain ⟨fu2, hf2⟩ := h2
  have hnf2 : W.noneFrozen p2 := fun b off hm => hfz b off (List.mem_append.2 (.inl (by rw [hp0]; exact List.mem_append.2 (.inr (by rw [hp1]; exact List.mem_append.2 (.inr (by rw [hp2]; exact List.mem_append.2 (.inl hm))))))))
  obtain ⟨less, rfl⟩ := WideShapes.okWide_bool Try.underlying4 (hval 2 4 v2 rfl rfl)
  refine (t_firthlaw23_JudgeFinds (Γ := Gh.all W) hs0 hc0 which hx1 less (Sat.all W) (p_firthlaw23_JudgeFinds (Γ := Gh.all W) hs0 hc0 which hx1 less (Nat.le_trans hm0 hb0))).mono fun e W' ⟨he, hf⟩ => ?_
  subst he
  exact ⟨_, rfl, post_of_below (pa := p) (pv := []) hW' (fun _ _ _ => (trodAll_cons_mk (shut_bool Try.underlying4 _) trodAll_mk0)) (fun sp hsp => trodAll_below laidOut_ hf.below (by kernel_rfl) hA0 (fun x hx => hlt x (List.mem_append.2 (.inl hx))) sp (fun x hx => hsp x (List.mem_append.2 (.inl hx)))) (fun _ _ => rfl) (by rw [hq]) hf.below (ok_one (by kernel_rfl) rfl (okWide_bool_mk Try.underlying4 _))⟩
set_option maxRecDepth 100000 in
theorem JudgeFinds_lifted (os : Os) (started : os.Started) (H : Type) (enc : TypeId × Value → H) (F : Stop.Interp) :
    ReturnsInHanded {} Try.checked os 5 .any ((Rows.OpenSpec.upto Rows.judgeFindsSpec).pre6 enc Try.prog Try.f5 Rows.judgeFindsUptoRow.domain false) (((Rows.OpenSpec.upto Rows.judgeFindsSpec).at F).post enc Try.prog Try.f5 false true false false) := by
  refine returnsInHanded_of_cond (C := Try.checked) (s := Rows.OpenSpec.upto Rows.judgeFindsSpec) (k := Rows.uptoSmall) rfl own_ started (by kernel_rfl) Try.func5
    (OpenSpec.witness (enc := enc) (C := Try.checked) (s := Rows.OpenSpec.upto Rows.judgeFindsSpec) (k := Rows.uptoSmall) rfl false ⟨#[], #[.slice none 0 0, .int .i64 0, .bool false], []⟩ 8 (by kernel_rfl) (by kernel_rfl) (by kernel_rfl)
      (x := ([.nil, .lit (.int .i64 0), .lit (.bool false)], [], [])) (by kernel_rfl) rfl (by kernel_rfl)) ?_
  intro W base args ds gs before hval hW _ hk _
  exact JudgeFinds_contract H enc W base args ds gs before hval hW hk
theorem JudgeFinds_over : Rows.judgeFindsUptoRow.holds Try.pinned (Rows.OpenSpec.upto Rows.judgeFindsSpec) :=
  OpenClaim.holds_of_cond 5 Try.f5 rfl rfl rfl rfl rfl rfl rfl ⟨rfl, rfl, rfl, rfl, rfl⟩ rfl rfl rfl rfl rfl (by kernel_rfl) Try.func5 (by kernel_rfl)
    (of_decide_eq_true (by kernel_rfl)) (by unfold Func.isWrapper; first | (rw [if_pos (by decide +kernel)]; kernel_rfl) | (rw [if_neg (by decide +kernel)]; exact ⟨rfl, rfl⟩))
    (fun os started H enc _ F => JudgeFinds_lifted os started H enc F)
theorem JudgeFinds_proved : Rows.JudgeFindsUptoSaid := JudgeFinds_over
end Fw
theorem JudgeFinds_holds : Rows.JudgeFindsUptoSaid := Fw.JudgeFinds_proved
end Go.Proofs.Ytldpanjodokefaa
