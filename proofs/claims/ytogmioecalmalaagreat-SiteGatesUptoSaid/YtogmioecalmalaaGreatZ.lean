/- The law SiteGates, as it is given: the whole row. No condition. -/
import Derived.Test.YtogmioecalmalaaGreatW3
import Derived.Test.YtogmioecalmalaaGreatG4
import Derived.Test.YtogmioecalmalaaGreatK11
import Derived.Test.YtogmioecalmalaaGreatJ3
namespace Go.Proofs.YtogmioecalmalaaGreat
namespace Fw
set_option linter.unusedVariables false
set_option linter.unusedSimpArgs false
set_option linter.unusedSectionVars false
open Go.RowKit Go.ChangeShapes
theorem ln_3 {α : Type} {cs : List α} (h : cs.length = 3) : ∃ c0 c1 c2, cs = [c0, c1, c2] := by
  match cs, h with | [c0, c1, c2], _ => exact ⟨_, _, _, rfl⟩
set_option maxRecDepth 100000 in
theorem uN : q6 Tryz.prog 131 aW Span.bk := by
  intro H enc w base spare held fuel cs x h hnf hb
  obtain ⟨xs, n, _, rfl, hl, hlen, hf⟩ := DataW.trod_struct Tryz.underlying131 h
  rw [show Tryz.prog.cellsOf 131 = 3 from by kernel_rfl] at hl
  obtain ⟨c0, c1, c2, rfl⟩ : ∃ c0 c1 c2, cs = [c0, c1, c2] := ln_3 hl
  obtain ⟨y0, y1, y2, rfl⟩ : ∃ y0 y1 y2, xs = [y0, y1, y2] := ln_3 hlen
  simp only [List.map, Rows.uptoBulk, Rows.uptoBulkAll] at hb
  have h0 : DataW.trod enc Tryz.prog w base spare held n 3 (([c0, c1, c2].drop 0).take (Tryz.prog.cellsOf 3)) = some y0 := hf 0 _ rfl
  rw [show Tryz.prog.cellsOf 3 = 1 from by kernel_rfl] at h0
  have h1 : DataW.trod enc Tryz.prog w base spare held n 2 (([c0, c1, c2].drop 1).take (Tryz.prog.cellsOf 2)) = some y1 := hf 1 _ rfl
  rw [show Tryz.prog.cellsOf 2 = 1 from by kernel_rfl] at h1
  have h2 : DataW.trod enc Tryz.prog w base spare held n 2 (([c0, c1, c2].drop 2).take (Tryz.prog.cellsOf 2)) = some y2 := hf 2 _ rfl
  rw [show Tryz.prog.cellsOf 2 = 1 from by kernel_rfl] at h2
  obtain ⟨v0, g0, m0⟩ := (mK Tryz.underlying3) H enc w base spare held n _ _ h0 (w6 (xs := [y0, y1, y2]) hnf (by simp)) (by omega)
  obtain ⟨e0, r0⟩ := g0
  simp only [List.drop, List.take, List.cons.injEq, and_true] at e0
  obtain rfl := e0
  obtain ⟨v1, g1, m1⟩ := (mK Tryz.underlying2) H enc w base spare held n _ _ h1 (w6 (xs := [y0, y1, y2]) hnf (by simp)) (by omega)
  obtain ⟨e1, r1⟩ := g1
  simp only [List.drop, List.take, List.cons.injEq, and_true] at e1
  obtain rfl := e1
  obtain ⟨v2, g2, m2⟩ := (mK Tryz.underlying2) H enc w base spare held n _ _ h2 (w6 (xs := [y0, y1, y2]) hnf (by simp)) (by omega)
  obtain ⟨e2, r2⟩ := g2
  simp only [List.drop, List.take, List.cons.injEq, and_true] at e2
  obtain rfl := e2
  refine ⟨⟨v0, v1, v2⟩, ⟨rfl, r0, r1, r2⟩, ?_⟩
  simp only [Span.bk, List.map, Rows.uptoBulk, Rows.uptoBulkAll]
  omega
set_option maxRecDepth 100000 in
theorem l1 (H : Type) (enc : TypeId × Value → H) (W : World) (base : Nat) (args : Array Value) (ds gs : List (DataW H)) (before : List MemPlace)
    (hval : ∀ (j : Nat) t v, Tryz.f5.params[j]? = some t → args[j]? = some v → Value.okWide Tryz.prog W .any base t v)
    (hW : DataW.Whole enc Tryz.prog Tryz.f5.params.toList Rows.siteGatesSpec.vars false W args.toList ds gs before) (hk : Rows.uptoSmall H (ds ++ gs) = true) :
    Calls Tryz.prog 5 args W fun e W' => ∃ v, e = .returned v ∧ Rows.siteGatesSpec.post enc Tryz.prog Tryz.f5 false true false false W args v W' := by
  have hW' := hW
  have hlt := fun p hp => hW.lt p hp
  obtain ⟨p, q, hA0, hV, rfl, hfz, hnd⟩ := hW
  have hA : DataW.TrodAll enc Tryz.prog W 0 (fun _ => true) true Tryz.f5.params.toList args.toList ds p := hA0
  rw [Tryz.params5] at hA hval
  obtain ⟨v0, vs0, d0, ds0, p0, q0, hargs0, hd0, hp0, h0, r0⟩ := trodAll_cons hA
  obtain ⟨v1, vs1, d1, ds1, p1, q1, hargs1, hd1, hp1, h1, r1⟩ := trodAll_cons r0
  obtain ⟨v2, vs2, d2, ds2, p2, q2, hargs2, hd2, hp2, h2, r2⟩ := trodAll_cons r1
  obtain ⟨hvn, hdn, hpn⟩ := trodAll_nil r2
  have hds : ds = [d0, d1, d2] := by simp_all
  obtain rfl : args = #[v0, v1, v2] := by cases args; simp_all
  subst hds
  obtain ⟨hgs, hq⟩ := trodVars_none hV
  subst hgs
  have hbulk := of_decide_eq_true hk
  simp only [List.append_nil] at hbulk
  have hb0 : Rows.uptoBulk d0 ≤ 1048576 := Nat.le_trans (kG (by simp)) hbulk
  obtain ⟨fu0, hf0⟩ := h0
  have hnf0 : W.noneFrozen p0 := fun b off hm => hfz b off (List.mem_append.2 (.inl (by rw [hp0]; exact List.mem_append.2 (.inl hm))))
  obtain ⟨A0, n0, c0, rfl⟩ := WideShapes.okWide_slice Tryz.underlying61 (hval 0 61 v0 rfl rfl)
  obtain ⟨token, ⟨B0, e0, he0, hc0, hs0⟩, hm0⟩ := (np Tryz.underlying61 (by kernel_rfl) (wm Tryz.underlying5)) H enc W _ _ _ _ _ _ hf0 hnf0 hb0
  obtain ⟨rfl, rfl, rfl⟩ : A0 = B0 ∧ n0 = token.length ∧ c0 = e0 := by simpa [Value.cells] using he0
  have hb1 : Rows.uptoBulk d1 ≤ 1048576 := Nat.le_trans (kG (by simp)) hbulk
  obtain ⟨fu1, hf1⟩ := h1
  have hnf1 : W.noneFrozen p1 := fun b off hm => hfz b off (List.mem_append.2 (.inl (by rw [hp0]; exact List.mem_append.2 (.inr (by rw [hp1]; exact List.mem_append.2 (.inl hm))))))
  obtain ⟨A1, n1, c1, rfl⟩ := WideShapes.okWide_slice Tryz.underlying54 (hval 1 54 v1 rfl rfl)
  obtain ⟨past, ⟨B1, e1, he1, hc1, hs1⟩, hm1⟩ := (np Tryz.underlying54 (by kernel_rfl) uN) H enc W _ _ _ _ _ _ hf1 hnf1 hb1
  obtain ⟨rfl, rfl, rfl⟩ : A1 = B1 ∧ n1 = past.length ∧ c1 = e1 := by simpa [Value.cells] using he1
  have hb2 : Rows.uptoBulk d2 ≤ 1048576 := Nat.le_trans (kG (by simp)) hbulk
  obtain ⟨fu2, hf2⟩ := h2
  have hnf2 : W.noneFrozen p2 := fun b off hm => hfz b off (List.mem_append.2 (.inl (by rw [hp0]; exact List.mem_append.2 (.inr (by rw [hp1]; exact List.mem_append.2 (.inr (by rw [hp2]; exact List.mem_append.2 (.inl hm))))))))
  obtain ⟨key, rfl⟩ := WideShapes.okWide_string Tryz.underlying9 (hval 2 9 v2 rfl rfl)
  obtain ⟨x2, ⟨he2, hx2⟩, _⟩ := (uO Tryz.underlying9) H enc W _ _ _ _ _ _ hf2 hnf2 hb2
  obtain rfl : key = x2 := by simpa [Value.cells] using he2
  refine (jc (Γ := Gh.all W) hs0 hc0 hs1 hc1 key hx2 (Sat.all W) (j2 (Γ := Gh.all W) hs0 hc0 hs1 hc1 key hx2 (Nat.le_trans hm0 hb0) (Nat.le_trans hm1 hb1))).mono fun e W' ⟨he, hf⟩ => ?_
  subst he
  exact ⟨_, rfl, px (pa := p) (pv := []) hW' (fun _ _ _ => (trodAll_cons_mk (shut_bool Tryz.underlying4 _) trodAll_mk0)) (fun sp hsp => kW ru hf.below (by kernel_rfl) hA0 (fun x hx => hlt x (List.mem_append.2 (.inl hx))) sp (fun x hx => hsp x (List.mem_append.2 (.inl hx)))) (fun _ _ => rfl) (by rw [hq]) hf.below (ok_one (by kernel_rfl) rfl (okWide_bool_mk Tryz.underlying4 _))⟩
set_option maxRecDepth 100000 in
theorem mX (os : Os) (started : os.Started) (H : Type) (enc : TypeId × Value → H) (F : Stop.Interp) :
    ReturnsInHanded {} Tryz.checked os 5 .any ((Rows.OpenSpec.upto Rows.siteGatesSpec).pre6 enc Tryz.prog Tryz.f5 Rows.siteGatesUptoRow.domain false) (((Rows.OpenSpec.upto Rows.siteGatesSpec).at F).post enc Tryz.prog Tryz.f5 false true false false) := by
  refine returnsInHanded_of_cond (C := Tryz.checked) (s := Rows.OpenSpec.upto Rows.siteGatesSpec) (k := Rows.uptoSmall) rfl own_ started (by kernel_rfl) Tryz.func5
    (OpenSpec.witness (enc := enc) (C := Tryz.checked) (s := Rows.OpenSpec.upto Rows.siteGatesSpec) (k := Rows.uptoSmall) rfl false ⟨#[], #[.slice none 0 0, .slice none 0 0, .string ⟨#[]⟩], []⟩ 8 (by kernel_rfl) (by kernel_rfl) (by kernel_rfl)
      (x := ([.nil, .nil, .lit (.string [])], [], [])) (by kernel_rfl) rfl (by kernel_rfl)) ?_
  intro W base args ds gs before hval hW _ hk _
  exact l1 H enc W base args ds gs before hval hW hk
set_option maxRecDepth 100000 in
theorem zw : joinedFacts Tryz.pinned.checked.prog 5 Tryz.f5 (Rows.OpenSpec.upto Rows.siteGatesSpec).bare Rows.siteGatesUptoRow = true := Ae jf0 jf1 jf2 jf3 jf4 jf5 jf6 jf7 jf8 jf9 jf10 jf11 jf12 jf13 jf14 jf15 jf16 jf17 jf18 jf19 jf20 jf21 jf22 jf23 jf24 jf25 jf26 jf27 jf28 jf29 jf30 jf31
theorem oC : Rows.siteGatesUptoRow.holds Tryz.pinned (Rows.OpenSpec.upto Rows.siteGatesSpec) :=
  OpenClaim.holds_of_cond 5 Tryz.f5 rfl rfl rfl rfl rfl rfl rfl ⟨rfl, rfl, rfl, rfl, rfl⟩ rfl rfl rfl rfl rfl w4 Tryz.func5 zw xM yc
    (fun os started H enc _ F => mX os started H enc F)
theorem SiteGates_proved : Rows.SiteGatesUptoSaid := oC
end Fw
theorem SiteGates_holds : Rows.SiteGatesUptoSaid := Fw.SiteGates_proved
end Go.Proofs.YtogmioecalmalaaGreat
