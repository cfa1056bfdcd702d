/- The law QueueGaps, as it is given: the whole row. No condition. -/
import Derived.Test.YtlfmppjcgaekhaaGreatW4
import Derived.Test.YtlfmppjcgaekhaaGreatPJ2
import Derived.Test.YtlfmppjcgaekhaaGreatK11
namespace Go.Proofs.YtlfmppjcgaekhaaGreat
namespace Fw
set_option linter.unusedVariables false
set_option linter.unusedSimpArgs false
set_option linter.unusedSectionVars false
open Go.RowKit Go.ChangeShapes
theorem own_ : ownKnob Tryz.prog.godebug = none := by kernel_rfl
theorem xW : laidOutB Tryz.prog = true := by kernel_rfl
theorem ln_6 {α : Type} {cs : List α} (h : cs.length = 6) : ∃ c0 c1 c2 c3 c4 c5, cs = [c0, c1, c2, c3, c4, c5] := by
  match cs, h with | [c0, c1, c2, c3, c4, c5], _ => exact ⟨_, _, _, _, _, _, rfl⟩
theorem yo : ui Tryz.prog 25 sN aa.bk := by
  intro H enc w base spare held fuel cs x h hnf hb
  obtain ⟨xs, n, _, rfl, hl, hlen, hf⟩ := DataW.trod_struct Tryz.underlying25 h
  rw [show Tryz.prog.cellsOf 25 = 6 from by kernel_rfl] at hl
  obtain ⟨c0, c1, c2, c3, c4, c5, rfl⟩ : ∃ c0 c1 c2 c3 c4 c5, cs = [c0, c1, c2, c3, c4, c5] := ln_6 hl
  obtain ⟨y0, y1, y2, y3, y4, y5, rfl⟩ : ∃ y0 y1 y2 y3 y4 y5, xs = [y0, y1, y2, y3, y4, y5] := ln_6 hlen
  simp only [List.map, Rows.uptoBulk, Rows.uptoBulkAll] at hb
  have h0 : DataW.trod enc Tryz.prog w base spare held n 3 (([c0, c1, c2, c3, c4, c5].drop 0).take (Tryz.prog.cellsOf 3)) = some y0 := hf 0 _ rfl
  rw [show Tryz.prog.cellsOf 3 = 1 from by kernel_rfl] at h0
  have h1 : DataW.trod enc Tryz.prog w base spare held n 3 (([c0, c1, c2, c3, c4, c5].drop 1).take (Tryz.prog.cellsOf 3)) = some y1 := hf 1 _ rfl
  rw [show Tryz.prog.cellsOf 3 = 1 from by kernel_rfl] at h1
  have h2 : DataW.trod enc Tryz.prog w base spare held n 22 (([c0, c1, c2, c3, c4, c5].drop 2).take (Tryz.prog.cellsOf 22)) = some y2 := hf 2 _ rfl
  rw [show Tryz.prog.cellsOf 22 = 1 from by kernel_rfl] at h2
  have h3 : DataW.trod enc Tryz.prog w base spare held n 3 (([c0, c1, c2, c3, c4, c5].drop 3).take (Tryz.prog.cellsOf 3)) = some y3 := hf 3 _ rfl
  rw [show Tryz.prog.cellsOf 3 = 1 from by kernel_rfl] at h3
  have h4 : DataW.trod enc Tryz.prog w base spare held n 2 (([c0, c1, c2, c3, c4, c5].drop 4).take (Tryz.prog.cellsOf 2)) = some y4 := hf 4 _ rfl
  rw [show Tryz.prog.cellsOf 2 = 1 from by kernel_rfl] at h4
  have h5 : DataW.trod enc Tryz.prog w base spare held n 22 (([c0, c1, c2, c3, c4, c5].drop 5).take (Tryz.prog.cellsOf 22)) = some y5 := hf 5 _ rfl
  rw [show Tryz.prog.cellsOf 22 = 1 from by kernel_rfl] at h5
  obtain ⟨v0, g0, m0⟩ := (ka Tryz.underlying3) H enc w base spare held n _ _ h0 (sa (xs := [y0, y1, y2, y3, y4, y5]) hnf (by simp)) (by omega)
  obtain ⟨e0, r0⟩ := g0
  simp only [List.drop, List.take, List.cons.injEq, and_true] at e0
  obtain rfl := e0
  obtain ⟨v1, g1, m1⟩ := (ka Tryz.underlying3) H enc w base spare held n _ _ h1 (sa (xs := [y0, y1, y2, y3, y4, y5]) hnf (by simp)) (by omega)
  obtain ⟨e1, r1⟩ := g1
  simp only [List.drop, List.take, List.cons.injEq, and_true] at e1
  obtain rfl := e1
  obtain ⟨v2, g2, m2⟩ := (q9 Tryz.underlying22 (by kernel_rfl) (ka Tryz.underlying3)) H enc w base spare held n _ _ h2 (sa (xs := [y0, y1, y2, y3, y4, y5]) hnf (by simp)) (by omega)
  obtain ⟨A2, b2, e2, l2, s2⟩ := g2
  simp only [List.drop, List.take, List.cons.injEq, and_true] at e2
  obtain rfl := e2
  obtain ⟨v3, g3, m3⟩ := (ka Tryz.underlying3) H enc w base spare held n _ _ h3 (sa (xs := [y0, y1, y2, y3, y4, y5]) hnf (by simp)) (by omega)
  obtain ⟨e3, r3⟩ := g3
  simp only [List.drop, List.take, List.cons.injEq, and_true] at e3
  obtain rfl := e3
  obtain ⟨v4, g4, m4⟩ := (ka Tryz.underlying2) H enc w base spare held n _ _ h4 (sa (xs := [y0, y1, y2, y3, y4, y5]) hnf (by simp)) (by omega)
  obtain ⟨e4, r4⟩ := g4
  simp only [List.drop, List.take, List.cons.injEq, and_true] at e4
  obtain rfl := e4
  obtain ⟨v5, g5, m5⟩ := (q9 Tryz.underlying22 (by kernel_rfl) (ka Tryz.underlying3)) H enc w base spare held n _ _ h5 (sa (xs := [y0, y1, y2, y3, y4, y5]) hnf (by simp)) (by omega)
  obtain ⟨A5, b5, e5, l5, s5⟩ := g5
  simp only [List.drop, List.take, List.cons.injEq, and_true] at e5
  obtain rfl := e5
  refine ⟨⟨v0, v1, v2, v3, v4, v5⟩, ⟨A2, b2, A5, b5, rfl, r0, r1, ⟨l2, s2⟩, r3, r4, ⟨l5, s5⟩⟩, ?_⟩
  simp only [aa.bk, List.map, Rows.uptoBulk, Rows.uptoBulkAll]
  omega
set_option maxRecDepth 100000 in
theorem nH (H : Type) (enc : TypeId × Value → H) (W : World) (base : Nat) (args : Array Value) (ds gs : List (DataW H)) (before : List MemPlace)
    (hval : ∀ (j : Nat) t v, Tryz.f4.params[j]? = some t → args[j]? = some v → Value.okWide Tryz.prog W .any base t v)
    (hW : DataW.Whole enc Tryz.prog Tryz.f4.params.toList Rows.queueGapsSpec.vars false W args.toList ds gs before) (hk : Rows.uptoSmall H (ds ++ gs) = true) :
    Calls Tryz.prog 4 args W fun e W' => ∃ v, e = .returned v ∧ Rows.queueGapsSpec.post enc Tryz.prog Tryz.f4 false true false false W args v W' := by
  have hW' := hW
  have hlt := fun p hp => hW.lt p hp
  obtain ⟨p, q, hA0, hV, rfl, hfz, hnd⟩ := hW
  have hA : DataW.TrodAll enc Tryz.prog W 0 (fun _ => true) true Tryz.f4.params.toList args.toList ds p := hA0
  rw [Tryz.params4] at hA hval
  obtain ⟨v0, vs0, d0, ds0, p0, q0, hargs0, hd0, hp0, h0, r0⟩ := trodAll_cons hA
  obtain ⟨v1, vs1, d1, ds1, p1, q1, hargs1, hd1, hp1, h1, r1⟩ := trodAll_cons r0
  obtain ⟨v2, vs2, d2, ds2, p2, q2, hargs2, hd2, hp2, h2, r2⟩ := trodAll_cons r1
  obtain ⟨hvn, hdn, hpn⟩ := trodAll_nil r2
  have hds : ds = [d0, d1, d2] := by simp_all
  obtain rfl : args = #[v0, v1, v2] := by cases args; simp_all
  subst hds
  obtain ⟨hgs, hq⟩ := trodVars_none hV
  subst hgs
  have hbulk := of_decide_eq_true hk
  simp only [List.append_nil] at hbulk
  have hb0 : Rows.uptoBulk d0 ≤ 1048576 := Nat.le_trans (mQ (by simp)) hbulk
  obtain ⟨fu0, hf0⟩ := h0
  have hnf0 : W.noneFrozen p0 := fun b off hm => hfz b off (List.mem_append.2 (.inl (by rw [hp0]; exact List.mem_append.2 (.inl hm))))
  obtain ⟨cs0, rfl, _⟩ := WideShapes.okWide_struct Tryz.underlying25 (hval 0 25 v0 rfl rfl)
  obtain ⟨c_, ⟨B0_2, e0_2, B0_5, e0_5, he0, hx0⟩, hm0⟩ := yo H enc W _ _ _ _ _ _ hf0 hnf0 hb0
  obtain rfl : cs0 = (aa.cs B0_2 e0_2 B0_5 e0_5 c_).toArray := by rw [← he0]; simp [Value.cells]
  have hb1 : Rows.uptoBulk d1 ≤ 1048576 := Nat.le_trans (mQ (by simp)) hbulk
  obtain ⟨fu1, hf1⟩ := h1
  have hnf1 : W.noneFrozen p1 := fun b off hm => hfz b off (List.mem_append.2 (.inl (by rw [hp0]; exact List.mem_append.2 (.inr (by rw [hp1]; exact List.mem_append.2 (.inl hm))))))
  obtain ⟨n, rfl⟩ := WideShapes.okWide_int Tryz.underlying5 (hval 1 5 v1 rfl rfl)
  obtain ⟨x1, he1, _⟩ := (uG Tryz.underlying5) H enc W _ _ _ _ _ _ hf1 hnf1 hb1
  obtain rfl : n = (x1.toNat : Int) := by have he : _ = _ := he1; simpa [Value.cells] using he
  have hb2 : Rows.uptoBulk d2 ≤ 1048576 := Nat.le_trans (mQ (by simp)) hbulk
  obtain ⟨fu2, hf2⟩ := h2
  have hnf2 : W.noneFrozen p2 := fun b off hm => hfz b off (List.mem_append.2 (.inl (by rw [hp0]; exact List.mem_append.2 (.inr (by rw [hp1]; exact List.mem_append.2 (.inr (by rw [hp2]; exact List.mem_append.2 (.inl hm))))))))
  obtain ⟨acked, rfl⟩ := WideShapes.okWide_int Tryz.underlying5 (hval 2 5 v2 rfl rfl)
  obtain ⟨x2, he2, _⟩ := (uG Tryz.underlying5) H enc W _ _ _ _ _ _ hf2 hnf2 hb2
  obtain rfl : acked = (x2.toNat : Int) := by have he : _ = _ := he2; simpa [Value.cells] using he
  refine (lw (Γ := Gh.all W) c_ hx0 (x1.toNat : Int) (b_r x1) (x2.toNat : Int) (b_r x2) (Sat.all W) (lD (Γ := Gh.all W) c_ hx0 (x1.toNat : Int) (b_r x1) (x2.toNat : Int) (b_r x2))).mono fun e W' ⟨he, hf⟩ => ?_
  subst he
  exact ⟨_, rfl, rS (pa := p) (pv := []) hW' (fun _ _ _ => (trodAll_cons_mk (shut_bool Tryz.underlying4 _) trodAll_mk0)) (fun sp hsp => ni xW hf.below (by kernel_rfl) hA0 (fun x hx => hlt x (List.mem_append.2 (.inl hx))) sp (fun x hx => hsp x (List.mem_append.2 (.inl hx)))) (fun _ _ => rfl) (by rw [hq]) hf.below (ok_one (by kernel_rfl) rfl (okWide_bool_mk Tryz.underlying4 _))⟩
set_option maxRecDepth 100000 in
theorem pd (os : Os) (started : os.Started) (H : Type) (enc : TypeId × Value → H) (F : Stop.Interp) :
    ReturnsInHanded {} Tryz.checked os 4 .any ((Rows.OpenSpec.upto Rows.queueGapsSpec).pre6 enc Tryz.prog Tryz.f4 Rows.queueGapsUptoRow.domain false) (((Rows.OpenSpec.upto Rows.queueGapsSpec).at F).post enc Tryz.prog Tryz.f4 false true false false) := by
  refine returnsInHanded_of_cond (C := Tryz.checked) (s := Rows.OpenSpec.upto Rows.queueGapsSpec) (k := Rows.uptoSmall) rfl own_ started (by kernel_rfl) Tryz.func4
    (OpenSpec.witness (enc := enc) (C := Tryz.checked) (s := Rows.OpenSpec.upto Rows.queueGapsSpec) (k := Rows.uptoSmall) rfl false ⟨#[], #[.agg #[.int .i64 0, .int .i64 0, .slice none 0 0, .int .i64 0, .int .i64 0, .slice none 0 0], .int .u8 0, .int .u8 0], []⟩ 8 (by kernel_rfl) (by kernel_rfl) (by kernel_rfl)
      (x := ([.agg [.lit (.int .i64 0), .lit (.int .i64 0), .nil, .lit (.int .i64 0), .lit (.int .i64 0), .nil], .lit (.int .u8 0), .lit (.int .u8 0)], [], [])) (by kernel_rfl) rfl (by kernel_rfl)) ?_
  intro W base args ds gs before hval hW _ hk _
  exact nH H enc W base args ds gs before hval hW hk
theorem ru : Rows.queueGapsUptoRow.holds Tryz.pinned (Rows.OpenSpec.upto Rows.queueGapsSpec) :=
  OpenClaim.holds_of_cond 4 Tryz.f4 rfl rfl rfl rfl rfl rfl rfl ⟨rfl, rfl, rfl, rfl, rfl⟩ rfl rfl rfl rfl rfl (by kernel_rfl) Tryz.func4 (by kernel_rfl)
    (of_decide_eq_true (by kernel_rfl)) (by unfold Func.isWrapper; first | (rw [if_pos (by decide +kernel)]; kernel_rfl) | (rw [if_neg (by decide +kernel)]; exact ⟨rfl, rfl⟩))
    (fun os started H enc _ F => pd os started H enc F)
theorem QueueGaps_proved : Rows.QueueGapsUptoSaid := ru
end Fw
theorem QueueGaps_holds : Rows.QueueGapsUptoSaid := Fw.QueueGaps_proved
end Go.Proofs.YtlfmppjcgaekhaaGreat
