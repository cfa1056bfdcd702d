/- The law TreeKeeps, as it is given: the whole row. No condition. -/
import Derived.Test.YtmmnpinpcgidnaaGreatW3
import Derived.Test.YtmmnpinpcgidnaaGreatP22
import Derived.Test.YtmmnpinpcgidnaaGreatK11
namespace Go.Proofs.YtmmnpinpcgidnaaGreat
namespace Fw
set_option linter.unusedVariables false
set_option linter.unusedSimpArgs false
set_option linter.unusedSectionVars false
open Go.RowKit Go.ChangeShapes
theorem own_ : ownKnob Tryz.prog.godebug = none := by kernel_rfl
theorem laidOut_ : laidOutB Tryz.prog = true := by kernel_rfl
theorem ln_2 {α : Type} {cs : List α} (h : cs.length = 2) : ∃ c0 c1, cs = [c0, c1] := by
  match cs, h with | [c0, c1], _ => exact ⟨_, _, rfl⟩
theorem ln_3 {α : Type} {cs : List α} (h : cs.length = 3) : ∃ c0 c1 c2, cs = [c0, c1, c2] := by
  match cs, h with | [c0, c1, c2], _ => exact ⟨_, _, _, rfl⟩
theorem ln_4 {α : Type} {cs : List α} (h : cs.length = 4) : ∃ c0 c1 c2 c3, cs = [c0, c1, c2, c3] := by
  match cs, h with | [c0, c1, c2, c3], _ => exact ⟨_, _, _, _, rfl⟩
theorem ln_5 {α : Type} {cs : List α} (h : cs.length = 5) : ∃ c0 c1 c2 c3 c4, cs = [c0, c1, c2, c3, c4] := by
  match cs, h with | [c0, c1, c2, c3, c4], _ => exact ⟨_, _, _, _, _, rfl⟩
theorem opens_48 : Opens Tryz.prog 48 dotT Dot.bk := by
  intro H enc w base spare held fuel cs x h hnf hb
  obtain ⟨xs, n, _, rfl, hl, hlen, hf⟩ := DataW.trod_struct Tryz.underlying48 h
  rw [show Tryz.prog.cellsOf 48 = 2 from by kernel_rfl] at hl
  obtain ⟨c0, c1, rfl⟩ : ∃ c0 c1, cs = [c0, c1] := ln_2 hl
  obtain ⟨y0, y1, rfl⟩ : ∃ y0 y1, xs = [y0, y1] := ln_2 hlen
  simp only [List.map, Rows.uptoBulk, Rows.uptoBulkAll] at hb
  have h0 : DataW.trod enc Tryz.prog w base spare held n 3 (([c0, c1].drop 0).take (Tryz.prog.cellsOf 3)) = some y0 := hf 0 _ rfl
  rw [show Tryz.prog.cellsOf 3 = 1 from by kernel_rfl] at h0
  have h1 : DataW.trod enc Tryz.prog w base spare held n 2 (([c0, c1].drop 1).take (Tryz.prog.cellsOf 2)) = some y1 := hf 1 _ rfl
  rw [show Tryz.prog.cellsOf 2 = 1 from by kernel_rfl] at h1
  obtain ⟨v0, g0, m0⟩ := (opens_i64 Tryz.underlying3) H enc w base spare held n _ _ h0 (nf_of (xs := [y0, y1]) hnf (by simp)) (by omega)
  obtain ⟨e0, r0⟩ := g0
  simp only [List.drop, List.take, List.cons.injEq, and_true] at e0
  obtain rfl := e0
  obtain ⟨v1, g1, m1⟩ := (opens_i64 Tryz.underlying2) H enc w base spare held n _ _ h1 (nf_of (xs := [y0, y1]) hnf (by simp)) (by omega)
  obtain ⟨e1, r1⟩ := g1
  simp only [List.drop, List.take, List.cons.injEq, and_true] at e1
  obtain rfl := e1
  refine ⟨⟨v0, v1⟩, ⟨rfl, r0, r1⟩, ?_⟩
  simp only [Dot.bk, List.map, Rows.uptoBulk, Rows.uptoBulkAll]
  omega
theorem opens_53 : Opens Tryz.prog 53 spanT Span.bk := by
  intro H enc w base spare held fuel cs x h hnf hb
  obtain ⟨xs, n, _, rfl, hl, hlen, hf⟩ := DataW.trod_struct Tryz.underlying53 h
  rw [show Tryz.prog.cellsOf 53 = 3 from by kernel_rfl] at hl
  obtain ⟨c0, c1, c2, rfl⟩ : ∃ c0 c1 c2, cs = [c0, c1, c2] := ln_3 hl
  obtain ⟨y0, y1, y2, rfl⟩ : ∃ y0 y1 y2, xs = [y0, y1, y2] := ln_3 hlen
  simp only [List.map, Rows.uptoBulk, Rows.uptoBulkAll] at hb
  have h0 : DataW.trod enc Tryz.prog w base spare held n 3 (([c0, c1, c2].drop 0).take (Tryz.prog.cellsOf 3)) = some y0 := hf 0 _ rfl
  rw [show Tryz.prog.cellsOf 3 = 1 from by kernel_rfl] at h0
  have h1 : DataW.trod enc Tryz.prog w base spare held n 2 (([c0, c1, c2].drop 1).take (Tryz.prog.cellsOf 2)) = some y1 := hf 1 _ rfl
  rw [show Tryz.prog.cellsOf 2 = 1 from by kernel_rfl] at h1
  have h2 : DataW.trod enc Tryz.prog w base spare held n 2 (([c0, c1, c2].drop 2).take (Tryz.prog.cellsOf 2)) = some y2 := hf 2 _ rfl
  rw [show Tryz.prog.cellsOf 2 = 1 from by kernel_rfl] at h2
  obtain ⟨v0, g0, m0⟩ := (opens_i64 Tryz.underlying3) H enc w base spare held n _ _ h0 (nf_of (xs := [y0, y1, y2]) hnf (by simp)) (by omega)
  obtain ⟨e0, r0⟩ := g0
  simp only [List.drop, List.take, List.cons.injEq, and_true] at e0
  obtain rfl := e0
  obtain ⟨v1, g1, m1⟩ := (opens_i64 Tryz.underlying2) H enc w base spare held n _ _ h1 (nf_of (xs := [y0, y1, y2]) hnf (by simp)) (by omega)
  obtain ⟨e1, r1⟩ := g1
  simp only [List.drop, List.take, List.cons.injEq, and_true] at e1
  obtain rfl := e1
  obtain ⟨v2, g2, m2⟩ := (opens_i64 Tryz.underlying2) H enc w base spare held n _ _ h2 (nf_of (xs := [y0, y1, y2]) hnf (by simp)) (by omega)
  obtain ⟨e2, r2⟩ := g2
  simp only [List.drop, List.take, List.cons.injEq, and_true] at e2
  obtain rfl := e2
  refine ⟨⟨v0, v1, v2⟩, ⟨rfl, r0, r1, r2⟩, ?_⟩
  simp only [Span.bk, List.map, Rows.uptoBulk, Rows.uptoBulkAll]
  omega
theorem opens_51 : Opens Tryz.prog 51 verT Ver.bk := by
  intro H enc w base spare held fuel cs x h hnf hb
  obtain ⟨xs, n, _, rfl, hl, hlen, hf⟩ := DataW.trod_struct Tryz.underlying51 h
  rw [show Tryz.prog.cellsOf 51 = 5 from by kernel_rfl] at hl
  obtain ⟨c0, c1, c2, c3, c4, rfl⟩ : ∃ c0 c1 c2 c3 c4, cs = [c0, c1, c2, c3, c4] := ln_5 hl
  obtain ⟨y0, y1, y2, y3, rfl⟩ : ∃ y0 y1 y2 y3, xs = [y0, y1, y2, y3] := ln_4 hlen
  simp only [List.map, Rows.uptoBulk, Rows.uptoBulkAll] at hb
  have h0 : DataW.trod enc Tryz.prog w base spare held n 48 (([c0, c1, c2, c3, c4].drop 0).take (Tryz.prog.cellsOf 48)) = some y0 := hf 0 _ rfl
  rw [show Tryz.prog.cellsOf 48 = 2 from by kernel_rfl] at h0
  have h1 : DataW.trod enc Tryz.prog w base spare held n 49 (([c0, c1, c2, c3, c4].drop 2).take (Tryz.prog.cellsOf 49)) = some y1 := hf 1 _ rfl
  rw [show Tryz.prog.cellsOf 49 = 1 from by kernel_rfl] at h1
  have h2 : DataW.trod enc Tryz.prog w base spare held n 4 (([c0, c1, c2, c3, c4].drop 3).take (Tryz.prog.cellsOf 4)) = some y2 := hf 2 _ rfl
  rw [show Tryz.prog.cellsOf 4 = 1 from by kernel_rfl] at h2
  have h3 : DataW.trod enc Tryz.prog w base spare held n 9 (([c0, c1, c2, c3, c4].drop 4).take (Tryz.prog.cellsOf 9)) = some y3 := hf 3 _ rfl
  rw [show Tryz.prog.cellsOf 9 = 1 from by kernel_rfl] at h3
  obtain ⟨v0, g0, m0⟩ := opens_48 H enc w base spare held n _ _ h0 (nf_of (xs := [y0, y1, y2, y3]) hnf (by simp)) (by omega)
  obtain ⟨e0, r0_0, r0_1⟩ := g0
  simp only [Dot.cs, List.drop, List.take, List.cons.injEq, and_true] at e0
  obtain ⟨rfl, rfl⟩ := e0
  obtain ⟨v1, g1, m1⟩ := (opens_slice Tryz.underlying49 (by kernel_rfl) opens_53) H enc w base spare held n _ _ h1 (nf_of (xs := [y0, y1, y2, y3]) hnf (by simp)) (by omega)
  obtain ⟨A2, b2, e1, l1, s1⟩ := g1
  simp only [List.drop, List.take, List.cons.injEq, and_true] at e1
  obtain rfl := e1
  obtain ⟨v2, g2, m2⟩ := (opens_bool Tryz.underlying4) H enc w base spare held n _ _ h2 (nf_of (xs := [y0, y1, y2, y3]) hnf (by simp)) (by omega)
  have e2 : _ = _ := g2
  simp only [List.drop, List.take, List.cons.injEq, and_true] at e2
  obtain rfl := e2
  obtain ⟨v3, g3, m3⟩ := (opens_str Tryz.underlying9) H enc w base spare held n _ _ h3 (nf_of (xs := [y0, y1, y2, y3]) hnf (by simp)) (by omega)
  obtain ⟨e3, r3⟩ := g3
  simp only [List.drop, List.take, List.cons.injEq, and_true] at e3
  obtain rfl := e3
  refine ⟨⟨v0, v1, v2, v3⟩, ⟨A2, b2, rfl, r0_0, r0_1, ⟨l1, s1⟩, r3⟩, ?_⟩
  simp only [Ver.bk, List.map, Rows.uptoBulk, Rows.uptoBulkAll]
  omega
theorem opens_41 : Opens Tryz.prog 41 recT Rec.bk := by
  intro H enc w base spare held fuel cs x h hnf hb
  obtain ⟨xs, n, _, rfl, hl, hlen, hf⟩ := DataW.trod_struct Tryz.underlying41 h
  rw [show Tryz.prog.cellsOf 41 = 2 from by kernel_rfl] at hl
  obtain ⟨c0, c1, rfl⟩ : ∃ c0 c1, cs = [c0, c1] := ln_2 hl
  obtain ⟨y0, y1, rfl⟩ : ∃ y0 y1, xs = [y0, y1] := ln_2 hlen
  simp only [List.map, Rows.uptoBulk, Rows.uptoBulkAll] at hb
  have h0 : DataW.trod enc Tryz.prog w base spare held n 9 (([c0, c1].drop 0).take (Tryz.prog.cellsOf 9)) = some y0 := hf 0 _ rfl
  rw [show Tryz.prog.cellsOf 9 = 1 from by kernel_rfl] at h0
  have h1 : DataW.trod enc Tryz.prog w base spare held n 39 (([c0, c1].drop 1).take (Tryz.prog.cellsOf 39)) = some y1 := hf 1 _ rfl
  rw [show Tryz.prog.cellsOf 39 = 1 from by kernel_rfl] at h1
  obtain ⟨v0, g0, m0⟩ := (opens_str Tryz.underlying9) H enc w base spare held n _ _ h0 (nf_of (xs := [y0, y1]) hnf (by simp)) (by omega)
  obtain ⟨e0, r0⟩ := g0
  simp only [List.drop, List.take, List.cons.injEq, and_true] at e0
  obtain rfl := e0
  obtain ⟨v1, g1, m1⟩ := (opens_slice Tryz.underlying39 (by kernel_rfl) opens_51) H enc w base spare held n _ _ h1 (nf_of (xs := [y0, y1]) hnf (by simp)) (by omega)
  obtain ⟨A1, b1, e1, l1, s1⟩ := g1
  simp only [List.drop, List.take, List.cons.injEq, and_true] at e1
  obtain rfl := e1
  refine ⟨⟨v0, v1⟩, ⟨A1, b1, rfl, r0, ⟨l1, s1⟩⟩, ?_⟩
  simp only [Rec.bk, List.map, Rows.uptoBulk, Rows.uptoBulkAll]
  omega
set_option maxRecDepth 100000 in
theorem TreeKeeps_contract (H : Type) (enc : TypeId × Value → H) (W : World) (base : Nat) (args : Array Value) (ds gs : List (DataW H)) (before : List MemPlace)
    (hval : ∀ (j : Nat) t v, Tryz.f4.params[j]? = some t → args[j]? = some v → Value.okWide Tryz.prog W .any base t v)
    (hW : DataW.Whole enc Tryz.prog Tryz.f4.params.toList Rows.treeKeepsSpec.vars false W args.toList ds gs before) (hk : Rows.uptoSmall H (ds ++ gs) = true) :
    Calls Tryz.prog 4 args W fun e W' => ∃ v, e = .returned v ∧ Rows.treeKeepsSpec.post enc Tryz.prog Tryz.f4 false true false false W args v W' := by
  have hW' := hW
  have hlt := fun p hp => hW.lt p hp
  obtain ⟨p, q, hA0, hV, rfl, hfz, hnd⟩ := hW
  have hA : DataW.TrodAll enc Tryz.prog W 0 (fun _ => true) true Tryz.f4.params.toList args.toList ds p := hA0
  rw [Tryz.params4] at hA hval
  obtain ⟨v0, vs0, d0, ds0, p0, q0, hargs0, hd0, hp0, h0, r0⟩ := trodAll_cons hA
  obtain ⟨hvn, hdn, hpn⟩ := trodAll_nil r0
  have hds : ds = [d0] := by simp_all
  obtain rfl : args = #[v0] := by cases args; simp_all
  subst hds
  obtain ⟨hgs, hq⟩ := trodVars_none hV
  subst hgs
  have hbulk := of_decide_eq_true hk
  simp only [List.append_nil] at hbulk
  have hb0 : Rows.uptoBulk d0 ≤ 1048576 := Nat.le_trans (bulk_part (by simp)) hbulk
  obtain ⟨fu0, hf0⟩ := h0
  have hnf0 : W.noneFrozen p0 := fun b off hm => hfz b off (List.mem_append.2 (.inl (by rw [hp0]; exact List.mem_append.2 (.inl hm))))
  obtain ⟨cs0, rfl, _⟩ := WideShapes.okWide_struct Tryz.underlying41 (hval 0 41 v0 rfl rfl)
  obtain ⟨r_, ⟨B0_1, e0_1, he0, hx0⟩, hm0⟩ := opens_41 H enc W _ _ _ _ _ _ hf0 hnf0 hb0
  obtain rfl : cs0 = (Rec.cs B0_1 e0_1 r_).toArray := by rw [← he0]; simp [Value.cells]
  refine (t_firthlaw11_TreeKeeps (Γ := Gh.all W) r_ hx0 (Sat.all W) (p_firthlaw11_TreeKeeps (Γ := Gh.all W) r_ hx0 (Nat.le_trans hm0 hb0))).mono fun e W' ⟨he, hf⟩ => ?_
  subst he
  exact ⟨_, rfl, post_of_below (pa := p) (pv := []) hW' (fun _ _ _ => (trodAll_cons_mk (shut_bool Tryz.underlying4 _) trodAll_mk0)) (fun sp hsp => trodAll_below laidOut_ hf.below (by kernel_rfl) hA0 (fun x hx => hlt x (List.mem_append.2 (.inl hx))) sp (fun x hx => hsp x (List.mem_append.2 (.inl hx)))) (fun _ _ => rfl) (by rw [hq]) hf.below (ok_one (by kernel_rfl) rfl (okWide_bool_mk Tryz.underlying4 _))⟩
set_option maxRecDepth 100000 in
theorem TreeKeeps_lifted (os : Os) (started : os.Started) (H : Type) (enc : TypeId × Value → H) (F : Stop.Interp) :
    ReturnsInHanded {} Tryz.checked os 4 .any ((Rows.OpenSpec.upto Rows.treeKeepsSpec).pre6 enc Tryz.prog Tryz.f4 Rows.treeKeepsUptoRow.domain false) (((Rows.OpenSpec.upto Rows.treeKeepsSpec).at F).post enc Tryz.prog Tryz.f4 false true false false) := by
  refine returnsInHanded_of_cond (C := Tryz.checked) (s := Rows.OpenSpec.upto Rows.treeKeepsSpec) (k := Rows.uptoSmall) rfl own_ started (by kernel_rfl) Tryz.func4
    (OpenSpec.witness (enc := enc) (C := Tryz.checked) (s := Rows.OpenSpec.upto Rows.treeKeepsSpec) (k := Rows.uptoSmall) rfl false ⟨#[], #[.agg #[.string ⟨#[]⟩, .slice none 0 0]], []⟩ 8 (by kernel_rfl) (by kernel_rfl) (by kernel_rfl)
      (x := ([.agg [.lit (.string []), .nil]], [], [])) (by kernel_rfl) rfl (by kernel_rfl)) ?_
  intro W base args ds gs before hval hW _ hk _
  exact TreeKeeps_contract H enc W base args ds gs before hval hW hk
theorem TreeKeeps_over : Rows.treeKeepsUptoRow.holds Tryz.pinned (Rows.OpenSpec.upto Rows.treeKeepsSpec) :=
  OpenClaim.holds_of_cond 4 Tryz.f4 rfl rfl rfl rfl rfl rfl rfl ⟨rfl, rfl, rfl, rfl, rfl⟩ rfl rfl rfl rfl rfl (by kernel_rfl) Tryz.func4 (by kernel_rfl)
    (of_decide_eq_true (by kernel_rfl)) (by unfold Func.isWrapper; first | (rw [if_pos (by decide +kernel)]; kernel_rfl) | (rw [if_neg (by decide +kernel)]; exact ⟨rfl, rfl⟩))
    (fun os started H enc _ F => TreeKeeps_lifted os started H enc F)
theorem TreeKeeps_proved : Rows.TreeKeepsUptoSaid := TreeKeeps_over
end Fw
theorem TreeKeeps_holds : Rows.TreeKeepsUptoSaid := Fw.TreeKeeps_proved
end Go.Proofs.YtmmnpinpcgidnaaGreat
