/- The law SiteConfs, as it is given: the whole row. No condition. -/
import Derived.Test.YtogmioecalmalaaGreatW2
import Derived.Test.YtogmioecalmalaaGreatPJ1
import Derived.Test.YtogmioecalmalaaGreatK11
import Derived.Test.YtogmioecalmalaaGreatJ3
namespace Go.Proofs.YtogmioecalmalaaGreat
namespace Fw
set_option linter.unusedVariables false
set_option linter.unusedSimpArgs false
set_option linter.unusedSectionVars false
open Go.RowKit Go.ChangeShapes
theorem ln_2 {α : Type} {cs : List α} (h : cs.length = 2) : ∃ c0 c1, cs = [c0, c1] := by
  match cs, h with | [c0, c1], _ => exact ⟨_, _, rfl⟩
theorem ln_17 {α : Type} {cs : List α} (h : cs.length = 17) : ∃ c0 c1 c2 c3 c4 c5 c6 c7 c8 c9 c10 c11 c12 c13 c14 c15 c16, cs = [c0, c1, c2, c3, c4, c5, c6, c7, c8, c9, c10, c11, c12, c13, c14, c15, c16] := by
  match cs, h with | [c0, c1, c2, c3, c4, c5, c6, c7, c8, c9, c10, c11, c12, c13, c14, c15, c16], _ => exact ⟨_, _, _, _, _, _, _, _, _, _, _, _, _, _, _, _, _, rfl⟩
set_option maxRecDepth 100000 in
theorem opens_81 : Opens Tryz.prog 81 dapi_arr2T Dapi_arr2.bk := by
  intro H enc w base spare held fuel cs x h hnf hb
  obtain ⟨xs, n, _, rfl, hl, hlen, hf⟩ := DataW.trod_array Tryz.underlying81 h
  rw [show Tryz.prog.cellsOf 81 = 2 from by kernel_rfl] at hl
  obtain ⟨c0, c1, rfl⟩ : ∃ c0 c1, cs = [c0, c1] := ln_2 hl
  obtain ⟨y0, y1, rfl⟩ : ∃ y0 y1, xs = [y0, y1] := ln_2 hlen
  simp only [List.map, Rows.uptoBulk, Rows.uptoBulkAll] at hb
  have h0 := hf 0 (by decide)
  rw [show Tryz.prog.cellsOf 3 = 1 from by kernel_rfl] at h0
  change DataW.trod enc Tryz.prog w base spare held n 3 (([c0, c1].drop 0).take 1) = some y0 at h0
  have h1 := hf 1 (by decide)
  rw [show Tryz.prog.cellsOf 3 = 1 from by kernel_rfl] at h1
  change DataW.trod enc Tryz.prog w base spare held n 3 (([c0, c1].drop 1).take 1) = some y1 at h1
  obtain ⟨v0, g0, m0⟩ := (opens_i64 Tryz.underlying3) H enc w base spare held n _ _ h0 (nf_of (xs := [y0, y1]) hnf (by simp)) (by omega)
  obtain ⟨e0, r0⟩ := g0
  simp only [List.drop, List.take, List.cons.injEq, and_true] at e0
  obtain rfl := e0
  obtain ⟨v1, g1, m1⟩ := (opens_i64 Tryz.underlying3) H enc w base spare held n _ _ h1 (nf_of (xs := [y0, y1]) hnf (by simp)) (by omega)
  obtain ⟨e1, r1⟩ := g1
  simp only [List.drop, List.take, List.cons.injEq, and_true] at e1
  obtain rfl := e1
  refine ⟨⟨v0, v1⟩, ⟨rfl, r0, r1⟩, ?_⟩
  simp only [Dapi_arr2.bk, List.map, Rows.uptoBulk, Rows.uptoBulkAll]
  omega
set_option maxRecDepth 100000 in
theorem opens_25 : Opens Tryz.prog 25 dapi_ConfT Dapi_Conf.bk := by
  intro H enc w base spare held fuel cs x h hnf hb
  obtain ⟨xs, n, _, rfl, hl, hlen, hf⟩ := DataW.trod_struct Tryz.underlying25 h
  rw [show Tryz.prog.cellsOf 25 = 17 from by kernel_rfl] at hl
  obtain ⟨c0, c1, c2, c3, c4, c5, c6, c7, c8, c9, c10, c11, c12, c13, c14, c15, c16, rfl⟩ : ∃ c0 c1 c2 c3 c4 c5 c6 c7 c8 c9 c10 c11 c12 c13 c14 c15 c16, cs = [c0, c1, c2, c3, c4, c5, c6, c7, c8, c9, c10, c11, c12, c13, c14, c15, c16] := ln_17 hl
  obtain ⟨y0, y1, y2, y3, y4, y5, y6, y7, y8, y9, y10, y11, y12, y13, y14, y15, y16, rfl⟩ : ∃ y0 y1 y2 y3 y4 y5 y6 y7 y8 y9 y10 y11 y12 y13 y14 y15 y16, xs = [y0, y1, y2, y3, y4, y5, y6, y7, y8, y9, y10, y11, y12, y13, y14, y15, y16] := ln_17 hlen
  simp only [List.map, Rows.uptoBulk, Rows.uptoBulkAll] at hb
  have h0 : DataW.trod enc Tryz.prog w base spare held n 3 (([c0, c1, c2, c3, c4, c5, c6, c7, c8, c9, c10, c11, c12, c13, c14, c15, c16].drop 0).take (Tryz.prog.cellsOf 3)) = some y0 := hf 0 _ rfl
  rw [show Tryz.prog.cellsOf 3 = 1 from by kernel_rfl] at h0
  have h1 : DataW.trod enc Tryz.prog w base spare held n 22 (([c0, c1, c2, c3, c4, c5, c6, c7, c8, c9, c10, c11, c12, c13, c14, c15, c16].drop 1).take (Tryz.prog.cellsOf 22)) = some y1 := hf 1 _ rfl
  rw [show Tryz.prog.cellsOf 22 = 1 from by kernel_rfl] at h1
  have h2 : DataW.trod enc Tryz.prog w base spare held n 3 (([c0, c1, c2, c3, c4, c5, c6, c7, c8, c9, c10, c11, c12, c13, c14, c15, c16].drop 2).take (Tryz.prog.cellsOf 3)) = some y2 := hf 2 _ rfl
  rw [show Tryz.prog.cellsOf 3 = 1 from by kernel_rfl] at h2
  have h3 : DataW.trod enc Tryz.prog w base spare held n 23 (([c0, c1, c2, c3, c4, c5, c6, c7, c8, c9, c10, c11, c12, c13, c14, c15, c16].drop 3).take (Tryz.prog.cellsOf 23)) = some y3 := hf 3 _ rfl
  rw [show Tryz.prog.cellsOf 23 = 1 from by kernel_rfl] at h3
  have h4 : DataW.trod enc Tryz.prog w base spare held n 3 (([c0, c1, c2, c3, c4, c5, c6, c7, c8, c9, c10, c11, c12, c13, c14, c15, c16].drop 4).take (Tryz.prog.cellsOf 3)) = some y4 := hf 4 _ rfl
  rw [show Tryz.prog.cellsOf 3 = 1 from by kernel_rfl] at h4
  have h5 : DataW.trod enc Tryz.prog w base spare held n 3 (([c0, c1, c2, c3, c4, c5, c6, c7, c8, c9, c10, c11, c12, c13, c14, c15, c16].drop 5).take (Tryz.prog.cellsOf 3)) = some y5 := hf 5 _ rfl
  rw [show Tryz.prog.cellsOf 3 = 1 from by kernel_rfl] at h5
  have h6 : DataW.trod enc Tryz.prog w base spare held n 3 (([c0, c1, c2, c3, c4, c5, c6, c7, c8, c9, c10, c11, c12, c13, c14, c15, c16].drop 6).take (Tryz.prog.cellsOf 3)) = some y6 := hf 6 _ rfl
  rw [show Tryz.prog.cellsOf 3 = 1 from by kernel_rfl] at h6
  have h7 : DataW.trod enc Tryz.prog w base spare held n 2 (([c0, c1, c2, c3, c4, c5, c6, c7, c8, c9, c10, c11, c12, c13, c14, c15, c16].drop 7).take (Tryz.prog.cellsOf 2)) = some y7 := hf 7 _ rfl
  rw [show Tryz.prog.cellsOf 2 = 1 from by kernel_rfl] at h7
  have h8 : DataW.trod enc Tryz.prog w base spare held n 9 (([c0, c1, c2, c3, c4, c5, c6, c7, c8, c9, c10, c11, c12, c13, c14, c15, c16].drop 8).take (Tryz.prog.cellsOf 9)) = some y8 := hf 8 _ rfl
  rw [show Tryz.prog.cellsOf 9 = 1 from by kernel_rfl] at h8
  have h9 : DataW.trod enc Tryz.prog w base spare held n 3 (([c0, c1, c2, c3, c4, c5, c6, c7, c8, c9, c10, c11, c12, c13, c14, c15, c16].drop 9).take (Tryz.prog.cellsOf 3)) = some y9 := hf 9 _ rfl
  rw [show Tryz.prog.cellsOf 3 = 1 from by kernel_rfl] at h9
  have h10 : DataW.trod enc Tryz.prog w base spare held n 3 (([c0, c1, c2, c3, c4, c5, c6, c7, c8, c9, c10, c11, c12, c13, c14, c15, c16].drop 10).take (Tryz.prog.cellsOf 3)) = some y10 := hf 10 _ rfl
  rw [show Tryz.prog.cellsOf 3 = 1 from by kernel_rfl] at h10
  have h11 : DataW.trod enc Tryz.prog w base spare held n 3 (([c0, c1, c2, c3, c4, c5, c6, c7, c8, c9, c10, c11, c12, c13, c14, c15, c16].drop 11).take (Tryz.prog.cellsOf 3)) = some y11 := hf 11 _ rfl
  rw [show Tryz.prog.cellsOf 3 = 1 from by kernel_rfl] at h11
  have h12 : DataW.trod enc Tryz.prog w base spare held n 3 (([c0, c1, c2, c3, c4, c5, c6, c7, c8, c9, c10, c11, c12, c13, c14, c15, c16].drop 12).take (Tryz.prog.cellsOf 3)) = some y12 := hf 12 _ rfl
  rw [show Tryz.prog.cellsOf 3 = 1 from by kernel_rfl] at h12
  have h13 : DataW.trod enc Tryz.prog w base spare held n 3 (([c0, c1, c2, c3, c4, c5, c6, c7, c8, c9, c10, c11, c12, c13, c14, c15, c16].drop 13).take (Tryz.prog.cellsOf 3)) = some y13 := hf 13 _ rfl
  rw [show Tryz.prog.cellsOf 3 = 1 from by kernel_rfl] at h13
  have h14 : DataW.trod enc Tryz.prog w base spare held n 3 (([c0, c1, c2, c3, c4, c5, c6, c7, c8, c9, c10, c11, c12, c13, c14, c15, c16].drop 14).take (Tryz.prog.cellsOf 3)) = some y14 := hf 14 _ rfl
  rw [show Tryz.prog.cellsOf 3 = 1 from by kernel_rfl] at h14
  have h15 : DataW.trod enc Tryz.prog w base spare held n 3 (([c0, c1, c2, c3, c4, c5, c6, c7, c8, c9, c10, c11, c12, c13, c14, c15, c16].drop 15).take (Tryz.prog.cellsOf 3)) = some y15 := hf 15 _ rfl
  rw [show Tryz.prog.cellsOf 3 = 1 from by kernel_rfl] at h15
  have h16 : DataW.trod enc Tryz.prog w base spare held n 2 (([c0, c1, c2, c3, c4, c5, c6, c7, c8, c9, c10, c11, c12, c13, c14, c15, c16].drop 16).take (Tryz.prog.cellsOf 2)) = some y16 := hf 16 _ rfl
  rw [show Tryz.prog.cellsOf 2 = 1 from by kernel_rfl] at h16
  obtain ⟨v0, g0, m0⟩ := (opens_i64 Tryz.underlying3) H enc w base spare held n _ _ h0 (nf_of (xs := [y0, y1, y2, y3, y4, y5, y6, y7, y8, y9, y10, y11, y12, y13, y14, y15, y16]) hnf (by simp)) (by omega)
  obtain ⟨e0, r0⟩ := g0
  simp only [List.drop, List.take, List.cons.injEq, and_true] at e0
  obtain rfl := e0
  obtain ⟨v1, g1, m1⟩ := (opens_slice Tryz.underlying22 (by kernel_rfl) opens_81) H enc w base spare held n _ _ h1 (nf_of (xs := [y0, y1, y2, y3, y4, y5, y6, y7, y8, y9, y10, y11, y12, y13, y14, y15, y16]) hnf (by simp)) (by omega)
  obtain ⟨A1, b1, e1, l1, s1⟩ := g1
  simp only [List.drop, List.take, List.cons.injEq, and_true] at e1
  obtain rfl := e1
  obtain ⟨v2, g2, m2⟩ := (opens_i64 Tryz.underlying3) H enc w base spare held n _ _ h2 (nf_of (xs := [y0, y1, y2, y3, y4, y5, y6, y7, y8, y9, y10, y11, y12, y13, y14, y15, y16]) hnf (by simp)) (by omega)
  obtain ⟨e2, r2⟩ := g2
  simp only [List.drop, List.take, List.cons.injEq, and_true] at e2
  obtain rfl := e2
  obtain ⟨v3, g3, m3⟩ := (opens_slice Tryz.underlying23 (by kernel_rfl) (opens_i64 Tryz.underlying3)) H enc w base spare held n _ _ h3 (nf_of (xs := [y0, y1, y2, y3, y4, y5, y6, y7, y8, y9, y10, y11, y12, y13, y14, y15, y16]) hnf (by simp)) (by omega)
  obtain ⟨A3, b3, e3, l3, s3⟩ := g3
  simp only [List.drop, List.take, List.cons.injEq, and_true] at e3
  obtain rfl := e3
  obtain ⟨v4, g4, m4⟩ := (opens_i64 Tryz.underlying3) H enc w base spare held n _ _ h4 (nf_of (xs := [y0, y1, y2, y3, y4, y5, y6, y7, y8, y9, y10, y11, y12, y13, y14, y15, y16]) hnf (by simp)) (by omega)
  obtain ⟨e4, r4⟩ := g4
  simp only [List.drop, List.take, List.cons.injEq, and_true] at e4
  obtain rfl := e4
  obtain ⟨v5, g5, m5⟩ := (opens_i64 Tryz.underlying3) H enc w base spare held n _ _ h5 (nf_of (xs := [y0, y1, y2, y3, y4, y5, y6, y7, y8, y9, y10, y11, y12, y13, y14, y15, y16]) hnf (by simp)) (by omega)
  obtain ⟨e5, r5⟩ := g5
  simp only [List.drop, List.take, List.cons.injEq, and_true] at e5
  obtain rfl := e5
  obtain ⟨v6, g6, m6⟩ := (opens_i64 Tryz.underlying3) H enc w base spare held n _ _ h6 (nf_of (xs := [y0, y1, y2, y3, y4, y5, y6, y7, y8, y9, y10, y11, y12, y13, y14, y15, y16]) hnf (by simp)) (by omega)
  obtain ⟨e6, r6⟩ := g6
  simp only [List.drop, List.take, List.cons.injEq, and_true] at e6
  obtain rfl := e6
  obtain ⟨v7, g7, m7⟩ := (opens_i64 Tryz.underlying2) H enc w base spare held n _ _ h7 (nf_of (xs := [y0, y1, y2, y3, y4, y5, y6, y7, y8, y9, y10, y11, y12, y13, y14, y15, y16]) hnf (by simp)) (by omega)
  obtain ⟨e7, r7⟩ := g7
  simp only [List.drop, List.take, List.cons.injEq, and_true] at e7
  obtain rfl := e7
  obtain ⟨v8, g8, m8⟩ := (opens_str Tryz.underlying9) H enc w base spare held n _ _ h8 (nf_of (xs := [y0, y1, y2, y3, y4, y5, y6, y7, y8, y9, y10, y11, y12, y13, y14, y15, y16]) hnf (by simp)) (by omega)
  obtain ⟨e8, r8⟩ := g8
  simp only [List.drop, List.take, List.cons.injEq, and_true] at e8
  obtain rfl := e8
  obtain ⟨v9, g9, m9⟩ := (opens_i64 Tryz.underlying3) H enc w base spare held n _ _ h9 (nf_of (xs := [y0, y1, y2, y3, y4, y5, y6, y7, y8, y9, y10, y11, y12, y13, y14, y15, y16]) hnf (by simp)) (by omega)
  obtain ⟨e9, r9⟩ := g9
  simp only [List.drop, List.take, List.cons.injEq, and_true] at e9
  obtain rfl := e9
  obtain ⟨v10, g10, m10⟩ := (opens_i64 Tryz.underlying3) H enc w base spare held n _ _ h10 (nf_of (xs := [y0, y1, y2, y3, y4, y5, y6, y7, y8, y9, y10, y11, y12, y13, y14, y15, y16]) hnf (by simp)) (by omega)
  obtain ⟨e10, r10⟩ := g10
  simp only [List.drop, List.take, List.cons.injEq, and_true] at e10
  obtain rfl := e10
  obtain ⟨v11, g11, m11⟩ := (opens_i64 Tryz.underlying3) H enc w base spare held n _ _ h11 (nf_of (xs := [y0, y1, y2, y3, y4, y5, y6, y7, y8, y9, y10, y11, y12, y13, y14, y15, y16]) hnf (by simp)) (by omega)
  obtain ⟨e11, r11⟩ := g11
  simp only [List.drop, List.take, List.cons.injEq, and_true] at e11
  obtain rfl := e11
  obtain ⟨v12, g12, m12⟩ := (opens_i64 Tryz.underlying3) H enc w base spare held n _ _ h12 (nf_of (xs := [y0, y1, y2, y3, y4, y5, y6, y7, y8, y9, y10, y11, y12, y13, y14, y15, y16]) hnf (by simp)) (by omega)
  obtain ⟨e12, r12⟩ := g12
  simp only [List.drop, List.take, List.cons.injEq, and_true] at e12
  obtain rfl := e12
  obtain ⟨v13, g13, m13⟩ := (opens_i64 Tryz.underlying3) H enc w base spare held n _ _ h13 (nf_of (xs := [y0, y1, y2, y3, y4, y5, y6, y7, y8, y9, y10, y11, y12, y13, y14, y15, y16]) hnf (by simp)) (by omega)
  obtain ⟨e13, r13⟩ := g13
  simp only [List.drop, List.take, List.cons.injEq, and_true] at e13
  obtain rfl := e13
  obtain ⟨v14, g14, m14⟩ := (opens_i64 Tryz.underlying3) H enc w base spare held n _ _ h14 (nf_of (xs := [y0, y1, y2, y3, y4, y5, y6, y7, y8, y9, y10, y11, y12, y13, y14, y15, y16]) hnf (by simp)) (by omega)
  obtain ⟨e14, r14⟩ := g14
  simp only [List.drop, List.take, List.cons.injEq, and_true] at e14
  obtain rfl := e14
  obtain ⟨v15, g15, m15⟩ := (opens_i64 Tryz.underlying3) H enc w base spare held n _ _ h15 (nf_of (xs := [y0, y1, y2, y3, y4, y5, y6, y7, y8, y9, y10, y11, y12, y13, y14, y15, y16]) hnf (by simp)) (by omega)
  obtain ⟨e15, r15⟩ := g15
  simp only [List.drop, List.take, List.cons.injEq, and_true] at e15
  obtain rfl := e15
  obtain ⟨v16, g16, m16⟩ := (opens_i64 Tryz.underlying2) H enc w base spare held n _ _ h16 (nf_of (xs := [y0, y1, y2, y3, y4, y5, y6, y7, y8, y9, y10, y11, y12, y13, y14, y15, y16]) hnf (by simp)) (by omega)
  obtain ⟨e16, r16⟩ := g16
  simp only [List.drop, List.take, List.cons.injEq, and_true] at e16
  obtain rfl := e16
  refine ⟨⟨v0, v1, v2, v3, v4, v5, v6, v7, v8, v9, v10, v11, v12, v13, v14, v15, v16⟩, ⟨A1, b1, A3, b3, rfl, r0, ⟨l1, s1⟩, r2, ⟨l3, s3⟩, r4, r5, r6, r7, r8, r9, r10, r11, r12, r13, r14, r15, r16⟩, ?_⟩
  simp only [Dapi_Conf.bk, List.map, Rows.uptoBulk, Rows.uptoBulkAll]
  omega
set_option maxRecDepth 100000 in
theorem SiteConfs_contract (H : Type) (enc : TypeId × Value → H) (W : World) (base : Nat) (args : Array Value) (ds gs : List (DataW H)) (before : List MemPlace)
    (hval : ∀ (j : Nat) t v, Tryz.f3.params[j]? = some t → args[j]? = some v → Value.okWide Tryz.prog W .any base t v)
    (hW : DataW.Whole enc Tryz.prog Tryz.f3.params.toList Rows.siteConfsSpec.vars false W args.toList ds gs before) (hk : Rows.uptoSmall H (ds ++ gs) = true) :
    Calls Tryz.prog 3 args W fun e W' => ∃ v, e = .returned v ∧ Rows.siteConfsSpec.post enc Tryz.prog Tryz.f3 false true false false W args v W' := by
  have hW' := hW
  have hlt := fun p hp => hW.lt p hp
  obtain ⟨p, q, hA0, hV, rfl, hfz, hnd⟩ := hW
  have hA : DataW.TrodAll enc Tryz.prog W 0 (fun _ => true) true Tryz.f3.params.toList args.toList ds p := hA0
  rw [Tryz.params3] at hA hval
  obtain ⟨v0, vs0, d0, ds0, p0, q0, hargs0, hd0, hp0, h0, r0⟩ := trodAll_cons hA
  obtain ⟨v1, vs1, d1, ds1, p1, q1, hargs1, hd1, hp1, h1, r1⟩ := trodAll_cons r0
  obtain ⟨v2, vs2, d2, ds2, p2, q2, hargs2, hd2, hp2, h2, r2⟩ := trodAll_cons r1
  obtain ⟨hvn, hdn, hpn⟩ := trodAll_nil r2
  have hds : ds = [d0, d1, d2] := by simp_all
  obtain rfl : args = #[v0, v1, v2] := by cases args; simp_all
  subst hds
  obtain ⟨hgs, hq⟩ := trodVars_none hV
  subst hgs
  have hbulk := of_decide_eq_true hk
  simp only [List.append_nil] at hbulk
  have hb0 : Rows.uptoBulk d0 ≤ 1048576 := Nat.le_trans (bulk_part (by simp)) hbulk
  obtain ⟨fu0, hf0⟩ := h0
  have hnf0 : W.noneFrozen p0 := fun b off hm => hfz b off (List.mem_append.2 (.inl (by rw [hp0]; exact List.mem_append.2 (.inl hm))))
  obtain ⟨cs0, rfl, _⟩ := WideShapes.okWide_struct Tryz.underlying25 (hval 0 25 v0 rfl rfl)
  obtain ⟨c_, ⟨B0_1, e0_1, B0_3, e0_3, he0, hx0⟩, hm0⟩ := opens_25 H enc W _ _ _ _ _ _ hf0 hnf0 hb0
  obtain rfl : cs0 = (Dapi_Conf.cs B0_1 e0_1 B0_3 e0_3 c_).toArray := by rw [← he0]; simp [Value.cells]
  have hb1 : Rows.uptoBulk d1 ≤ 1048576 := Nat.le_trans (bulk_part (by simp)) hbulk
  obtain ⟨fu1, hf1⟩ := h1
  have hnf1 : W.noneFrozen p1 := fun b off hm => hfz b off (List.mem_append.2 (.inl (by rw [hp0]; exact List.mem_append.2 (.inr (by rw [hp1]; exact List.mem_append.2 (.inl hm))))))
  obtain ⟨self, rfl⟩ := WideShapes.okWide_int Tryz.underlying3 (hval 1 3 v1 rfl rfl)
  obtain ⟨x1, ⟨he1, hx1⟩, _⟩ := (opens_i64 Tryz.underlying3) H enc W _ _ _ _ _ _ hf1 hnf1 hb1
  obtain rfl : self = x1 := by simpa [Value.cells] using he1
  have hb2 : Rows.uptoBulk d2 ≤ 1048576 := Nat.le_trans (bulk_part (by simp)) hbulk
  obtain ⟨fu2, hf2⟩ := h2
  have hnf2 : W.noneFrozen p2 := fun b off hm => hfz b off (List.mem_append.2 (.inl (by rw [hp0]; exact List.mem_append.2 (.inr (by rw [hp1]; exact List.mem_append.2 (.inr (by rw [hp2]; exact List.mem_append.2 (.inl hm))))))))
  obtain ⟨boot, rfl⟩ := WideShapes.okWide_int Tryz.underlying2 (hval 2 2 v2 rfl rfl)
  obtain ⟨x2, ⟨he2, hx2⟩, _⟩ := (opens_i64 Tryz.underlying2) H enc W _ _ _ _ _ _ hf2 hnf2 hb2
  obtain rfl : boot = x2 := by simpa [Value.cells] using he2
  refine (t_firthlaw20_SiteConfs (Γ := Gh.all W) c_ hx0 self hx1 boot hx2 (Sat.all W) (p_firthlaw20_SiteConfs (Γ := Gh.all W) c_ hx0 self hx1 boot hx2 (Nat.le_trans hm0 hb0))).mono fun e W' ⟨he, hf⟩ => ?_
  subst he
  exact ⟨_, rfl, post_of_below (pa := p) (pv := []) hW' (fun _ _ _ => (trodAll_cons_mk (shut_bool Tryz.underlying4 _) trodAll_mk0)) (fun sp hsp => trodAll_below laidOut_ hf.below (by kernel_rfl) hA0 (fun x hx => hlt x (List.mem_append.2 (.inl hx))) sp (fun x hx => hsp x (List.mem_append.2 (.inl hx)))) (fun _ _ => rfl) (by rw [hq]) hf.below (ok_one (by kernel_rfl) rfl (okWide_bool_mk Tryz.underlying4 _))⟩
set_option maxRecDepth 100000 in
theorem SiteConfs_lifted (os : Os) (started : os.Started) (H : Type) (enc : TypeId × Value → H) (F : Stop.Interp) :
    ReturnsInHanded {} Tryz.checked os 3 .any ((Rows.OpenSpec.upto Rows.siteConfsSpec).pre6 enc Tryz.prog Tryz.f3 Rows.siteConfsUptoRow.domain false) (((Rows.OpenSpec.upto Rows.siteConfsSpec).at F).post enc Tryz.prog Tryz.f3 false true false false) := by
  refine returnsInHanded_of_cond (C := Tryz.checked) (s := Rows.OpenSpec.upto Rows.siteConfsSpec) (k := Rows.uptoSmall) rfl own_ started (by kernel_rfl) Tryz.func3
    (OpenSpec.witness (enc := enc) (C := Tryz.checked) (s := Rows.OpenSpec.upto Rows.siteConfsSpec) (k := Rows.uptoSmall) rfl false ⟨#[], #[.agg #[.int .i64 0, .slice none 0 0, .int .i64 0, .slice none 0 0, .int .i64 0, .int .i64 0, .int .i64 0, .int .i64 0, .string ⟨#[]⟩, .int .i64 0, .int .i64 0, .int .i64 0, .int .i64 0, .int .i64 0, .int .i64 0, .int .i64 0, .int .i64 0], .int .i64 0, .int .i64 0], []⟩ 8 (by kernel_rfl) (by kernel_rfl) (by kernel_rfl)
      (x := ([.agg [.lit (.int .i64 0), .nil, .lit (.int .i64 0), .nil, .lit (.int .i64 0), .lit (.int .i64 0), .lit (.int .i64 0), .lit (.int .i64 0), .lit (.string []), .lit (.int .i64 0), .lit (.int .i64 0), .lit (.int .i64 0), .lit (.int .i64 0), .lit (.int .i64 0), .lit (.int .i64 0), .lit (.int .i64 0), .lit (.int .i64 0)], .lit (.int .i64 0), .lit (.int .i64 0)], [], [])) (by kernel_rfl) rfl (by kernel_rfl)) ?_
  intro W base args ds gs before hval hW _ hk _
  exact SiteConfs_contract H enc W base args ds gs before hval hW hk
set_option maxRecDepth 100000 in
theorem jf_all : joinedFacts Tryz.pinned.checked.prog 3 Tryz.f3 (Rows.OpenSpec.upto Rows.siteConfsSpec).bare Rows.siteConfsUptoRow = true := jf_mk jf0 jf1 jf2 jf3 jf4 jf5 jf6 jf7 jf8 jf9 jf10 jf11 jf12 jf13 jf14 jf15 jf16 jf17 jf18 jf19 jf20 jf21 jf22 jf23 jf24 jf25 jf26 jf27 jf28 jf29 jf30 jf31
theorem SiteConfs_over : Rows.siteConfsUptoRow.holds Tryz.pinned (Rows.OpenSpec.upto Rows.siteConfsSpec) :=
  OpenClaim.holds_of_cond 3 Tryz.f3 rfl rfl rfl rfl rfl rfl rfl ⟨rfl, rfl, rfl, rfl, rfl⟩ rfl rfl rfl rfl rfl jf_named Tryz.func3 jf_all jf_inst jf_wrap
    (fun os started H enc _ F => SiteConfs_lifted os started H enc F)
theorem SiteConfs_proved : Rows.SiteConfsUptoSaid := SiteConfs_over
end Fw
theorem SiteConfs_holds : Rows.SiteConfsUptoSaid := Fw.SiteConfs_proved
end Go.Proofs.YtogmioecalmalaaGreat
