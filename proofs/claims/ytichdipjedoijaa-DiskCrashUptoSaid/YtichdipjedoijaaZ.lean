/- The law DiskCrash, as it is given: the whole row. No condition. -/
import Derived.Test.YtichdipjedoijaaW2
import Derived.Test.YtichdipjedoijaaP15
import Derived.Test.YtichdipjedoijaaK11
namespace Go.Proofs.Ytichdipjedoijaa
namespace Fw
set_option linter.unusedVariables false
set_option linter.unusedSimpArgs false
set_option linter.unusedSectionVars false
open Go.RowKit Go.ChangeShapes
theorem own_ : ownKnob Try.prog.godebug = none := by kernel_rfl
theorem laidOut_ : laidOutB Try.prog = true := by kernel_rfl
theorem ln_2 {α : Type} {cs : List α} (h : cs.length = 2) : ∃ c0 c1, cs = [c0, c1] := by
  match cs, h with | [c0, c1], _ => exact ⟨_, _, rfl⟩
theorem ln_6 {α : Type} {cs : List α} (h : cs.length = 6) : ∃ c0 c1 c2 c3 c4 c5, cs = [c0, c1, c2, c3, c4, c5] := by
  match cs, h with | [c0, c1, c2, c3, c4, c5], _ => exact ⟨_, _, _, _, _, _, rfl⟩
theorem opens_43 : Opens Try.prog 43 dfirthlaw07_OpT Dfirthlaw07_Op.bk := by
  intro H enc w base spare held fuel cs x h hb
  obtain ⟨xs, n, _, rfl, hl, hlen, hf⟩ := DataW.trod_struct Try.underlying43 h
  rw [show Try.prog.cellsOf 43 = 6 from by kernel_rfl] at hl
  obtain ⟨c0, c1, c2, c3, c4, c5, rfl⟩ : ∃ c0 c1 c2 c3 c4 c5, cs = [c0, c1, c2, c3, c4, c5] := ln_6 hl
  obtain ⟨y0, y1, y2, y3, y4, y5, rfl⟩ : ∃ y0 y1 y2 y3 y4 y5, xs = [y0, y1, y2, y3, y4, y5] := ln_6 hlen
  simp only [List.map, Rows.uptoBulk, Rows.uptoBulkAll] at hb
  have h0 : DataW.trod enc Try.prog w base spare held n 3 (([c0, c1, c2, c3, c4, c5].drop 0).take (Try.prog.cellsOf 3)) = some y0 := hf 0 _ rfl
  rw [show Try.prog.cellsOf 3 = 1 from by kernel_rfl] at h0
  have h1 : DataW.trod enc Try.prog w base spare held n 9 (([c0, c1, c2, c3, c4, c5].drop 1).take (Try.prog.cellsOf 9)) = some y1 := hf 1 _ rfl
  rw [show Try.prog.cellsOf 9 = 1 from by kernel_rfl] at h1
  have h2 : DataW.trod enc Try.prog w base spare held n 9 (([c0, c1, c2, c3, c4, c5].drop 2).take (Try.prog.cellsOf 9)) = some y2 := hf 2 _ rfl
  rw [show Try.prog.cellsOf 9 = 1 from by kernel_rfl] at h2
  have h3 : DataW.trod enc Try.prog w base spare held n 22 (([c0, c1, c2, c3, c4, c5].drop 3).take (Try.prog.cellsOf 22)) = some y3 := hf 3 _ rfl
  rw [show Try.prog.cellsOf 22 = 1 from by kernel_rfl] at h3
  have h4 : DataW.trod enc Try.prog w base spare held n 3 (([c0, c1, c2, c3, c4, c5].drop 4).take (Try.prog.cellsOf 3)) = some y4 := hf 4 _ rfl
  rw [show Try.prog.cellsOf 3 = 1 from by kernel_rfl] at h4
  have h5 : DataW.trod enc Try.prog w base spare held n 3 (([c0, c1, c2, c3, c4, c5].drop 5).take (Try.prog.cellsOf 3)) = some y5 := hf 5 _ rfl
  rw [show Try.prog.cellsOf 3 = 1 from by kernel_rfl] at h5
  obtain ⟨v0, g0, m0⟩ := (opens_i64 Try.underlying3) H enc w base spare held n _ _ h0 (by omega)
  obtain ⟨e0, r0⟩ := g0
  simp only [List.drop, List.take, List.cons.injEq, and_true] at e0
  obtain rfl := e0
  obtain ⟨v1, g1, m1⟩ := (opens_str Try.underlying9) H enc w base spare held n _ _ h1 (by omega)
  obtain ⟨e1, r1⟩ := g1
  simp only [List.drop, List.take, List.cons.injEq, and_true] at e1
  obtain rfl := e1
  obtain ⟨v2, g2, m2⟩ := (opens_str Try.underlying9) H enc w base spare held n _ _ h2 (by omega)
  obtain ⟨e2, r2⟩ := g2
  simp only [List.drop, List.take, List.cons.injEq, and_true] at e2
  obtain rfl := e2
  obtain ⟨v3, g3, m3⟩ := (opens_slice Try.underlying22 (by kernel_rfl) (opens_u8 Try.underlying5)) H enc w base spare held n _ _ h3 (by omega)
  obtain ⟨A3, b3, e3, l3, s3⟩ := g3
  simp only [List.drop, List.take, List.cons.injEq, and_true] at e3
  obtain rfl := e3
  obtain ⟨v4, g4, m4⟩ := (opens_i64 Try.underlying3) H enc w base spare held n _ _ h4 (by omega)
  obtain ⟨e4, r4⟩ := g4
  simp only [List.drop, List.take, List.cons.injEq, and_true] at e4
  obtain rfl := e4
  obtain ⟨v5, g5, m5⟩ := (opens_i64 Try.underlying3) H enc w base spare held n _ _ h5 (by omega)
  obtain ⟨e5, r5⟩ := g5
  simp only [List.drop, List.take, List.cons.injEq, and_true] at e5
  obtain rfl := e5
  refine ⟨⟨v0, v1, v2, v3, v4, v5⟩, ⟨A3, b3, rfl, r0, r1, r2, ⟨l3, s3⟩, r4, r5⟩, ?_⟩
  simp only [Dfirthlaw07_Op.bk, List.map, Rows.uptoBulk, Rows.uptoBulkAll]
  omega
set_option maxRecDepth 100000 in
theorem DiskCrash_contract (H : Type) (enc : TypeId × Value → H) (W : World) (base : Nat) (args : Array Value) (ds gs : List (DataW H)) (before : List MemPlace)
    (hval : ∀ (j : Nat) t v, Try.f6.params[j]? = some t → args[j]? = some v → Value.okWide Try.prog W .any base t v)
    (hW : DataW.Whole enc Try.prog Try.f6.params.toList Rows.diskCrashSpec.vars false W args.toList ds gs before) (hk : Rows.uptoSmall H (ds ++ gs) = true) :
    Calls Try.prog 6 args W fun e W' => ∃ v, e = .returned v ∧ Rows.diskCrashSpec.post enc Try.prog Try.f6 false true false false W args v W' := by
  have hW' := hW
  have hlt := fun p hp => hW.lt p hp
  obtain ⟨p, q, hA0, hV, rfl, hfz, hnd⟩ := hW
  have hA : DataW.TrodAll enc Try.prog W 0 (fun _ => true) true Try.f6.params.toList args.toList ds p := hA0
  rw [Try.params6] at hA hval
  obtain ⟨v0, vs0, d0, ds0, p0, q0, hargs0, hd0, hp0, h0, r0⟩ := trodAll_cons hA
  obtain ⟨v1, vs1, d1, ds1, p1, q1, hargs1, hd1, hp1, h1, r1⟩ := trodAll_cons r0
  obtain ⟨v2, vs2, d2, ds2, p2, q2, hargs2, hd2, hp2, h2, r2⟩ := trodAll_cons r1
  obtain ⟨hvn, hdn, hpn⟩ := trodAll_nil r2
  have hds : ds = [d0, d1, d2] := by simp_all
  obtain rfl : args = #[v0, v1, v2] := by cases args; simp_all
  subst hds
  obtain ⟨hgs, hq⟩ := trodVars_none hV
  subst hgs
  have hbulk := of_decide_eq_true hk
  simp only [List.append_nil] at hbulk
  have hb0 : Rows.uptoBulk d0 ≤ 1048576 := Nat.le_trans (bulk_part (by simp)) hbulk
  obtain ⟨fu0, hf0⟩ := h0
  obtain ⟨A0, n0, c0, rfl⟩ := WideShapes.okWide_slice Try.underlying38 (hval 0 38 v0 rfl rfl)
  obtain ⟨safe_, ⟨B0, e0, he0, hc0, hs0⟩, hm0⟩ := (opens_slice Try.underlying38 (by kernel_rfl) opens_43) H enc W _ _ _ _ _ _ hf0 hb0
  obtain ⟨rfl, rfl, rfl⟩ : A0 = B0 ∧ n0 = safe_.length ∧ c0 = e0 := by simpa [Value.cells] using he0
  have hb1 : Rows.uptoBulk d1 ≤ 1048576 := Nat.le_trans (bulk_part (by simp)) hbulk
  obtain ⟨fu1, hf1⟩ := h1
  obtain ⟨A1, n1, c1, rfl⟩ := WideShapes.okWide_slice Try.underlying38 (hval 1 38 v1 rfl rfl)
  obtain ⟨loose, ⟨B1, e1, he1, hc1, hs1⟩, hm1⟩ := (opens_slice Try.underlying38 (by kernel_rfl) opens_43) H enc W _ _ _ _ _ _ hf1 hb1
  obtain ⟨rfl, rfl, rfl⟩ : A1 = B1 ∧ n1 = loose.length ∧ c1 = e1 := by simpa [Value.cells] using he1
  have hb2 : Rows.uptoBulk d2 ≤ 1048576 := Nat.le_trans (bulk_part (by simp)) hbulk
  obtain ⟨fu2, hf2⟩ := h2
  obtain ⟨cs2, rfl⟩ := okWide_arr Try.underlying52 (hval 2 52 v2 rfl rfl)
  obtain ⟨ys2, hl2, he2, hx2⟩ := opens_arr_i64 Try.underlying52 Try.underlying3 (by kernel_rfl) (by kernel_rfl) hf2
  obtain ⟨fate0, fate1, rfl⟩ := ln_2 hl2
  obtain rfl : cs2 = #[.int .i64 fate0, .int .i64 fate1] := by cases cs2; simpa [Value.cells] using he2
  refine (t_firthlaw07_DiskCrash (Γ := Gh.all W) hs0 hc0 hs1 hc1 fate0 (hx2 fate0 (by simp)) fate1 (hx2 fate1 (by simp)) (Sat.all W) (p_firthlaw07_DiskCrash (Γ := Gh.all W) hs0 hc0 hs1 hc1 fate0 (hx2 fate0 (by simp)) fate1 (hx2 fate1 (by simp)) (Nat.le_trans hm0 hb0) (Nat.le_trans hm1 hb1))).mono fun e W' ⟨he, hf⟩ => ?_
  subst he
  exact ⟨_, rfl, post_of_below (pa := p) (pv := []) hW' (fun _ _ _ => (trodAll_cons_mk (shut_bool Try.underlying4 _) trodAll_mk0)) (fun sp hsp => trodAll_below laidOut_ hf.below (by kernel_rfl) hA0 (fun x hx => hlt x (List.mem_append.2 (.inl hx))) sp (fun x hx => hsp x (List.mem_append.2 (.inl hx)))) (fun _ _ => rfl) (by rw [hq]) hf.below (ok_one (by kernel_rfl) rfl (okWide_bool_mk Try.underlying4 _))⟩
set_option maxRecDepth 100000 in
theorem DiskCrash_lifted (os : Os) (started : os.Started) (H : Type) (enc : TypeId × Value → H) (F : Stop.Interp) :
    ReturnsInHanded {} Try.checked os 6 .any ((Rows.OpenSpec.upto Rows.diskCrashSpec).pre6 enc Try.prog Try.f6 Rows.diskCrashUptoRow.domain false) (((Rows.OpenSpec.upto Rows.diskCrashSpec).at F).post enc Try.prog Try.f6 false true false false) := by
  refine returnsInHanded_of_cond (C := Try.checked) (s := Rows.OpenSpec.upto Rows.diskCrashSpec) (k := Rows.uptoSmall) rfl own_ started (by kernel_rfl) Try.func6
    (OpenSpec.witness (enc := enc) (C := Try.checked) (s := Rows.OpenSpec.upto Rows.diskCrashSpec) (k := Rows.uptoSmall) rfl false ⟨#[], #[.slice none 0 0, .slice none 0 0, .agg #[.int .i64 0, .int .i64 0]], []⟩ 8 (by kernel_rfl) (by kernel_rfl) (by kernel_rfl)
      (x := ([.nil, .nil, .agg [.lit (.int .i64 0), .lit (.int .i64 0)]], [], [])) (by kernel_rfl) rfl (by kernel_rfl)) ?_
  intro W base args ds gs before hval hW _ hk _
  exact DiskCrash_contract H enc W base args ds gs before hval hW hk
theorem DiskCrash_over : Rows.diskCrashUptoRow.holds Try.pinned (Rows.OpenSpec.upto Rows.diskCrashSpec) :=
  OpenClaim.holds_of_cond 6 Try.f6 rfl rfl rfl rfl rfl rfl rfl ⟨rfl, rfl, rfl, rfl, rfl⟩ rfl rfl rfl rfl rfl (by kernel_rfl) Try.func6 (by kernel_rfl)
    (of_decide_eq_true (by kernel_rfl)) (by unfold Func.isWrapper; first | (rw [if_pos (by decide +kernel)]; kernel_rfl) | (rw [if_neg (by decide +kernel)]; exact ⟨rfl, rfl⟩))
    (fun os started H enc _ F => DiskCrash_lifted os started H enc F)
theorem DiskCrash_proved : Rows.DiskCrashUptoSaid := DiskCrash_over
end Fw
theorem DiskCrash_holds : Rows.DiskCrashUptoSaid := Fw.DiskCrash_proved
end Go.Proofs.Ytichdipjedoijaa
