/- The law RingParts, as it is given: the whole row. No condition. -/
import Derived.Test.YtdhenoidmialaaaW1
import Derived.Test.YtdhenoidmialaaaP9
import Derived.Test.YtdhenoidmialaaaK11
namespace Go.Proofs.Ytdhenoidmialaaa
namespace Fw
set_option linter.unusedVariables false
set_option linter.unusedSimpArgs false
set_option linter.unusedSectionVars false
open Go.RowKit Go.ChangeShapes
theorem own_ : ownKnob Try.prog.godebug = none := by kernel_rfl
theorem laidOut_ : laidOutB Try.prog = true := by kernel_rfl

set_option maxRecDepth 100000 in
theorem RingParts_contract (H : Type) (enc : TypeId × Value → H) (W : World) (base : Nat) (args : Array Value) (ds gs : List (DataW H)) (before : List MemPlace)
    (hval : ∀ (j : Nat) t v, Try.f4.params[j]? = some t → args[j]? = some v → Value.okWide Try.prog W .any base t v)
    (hW : DataW.Whole enc Try.prog Try.f4.params.toList Rows.ringPartsSpec.vars false W args.toList ds gs before) (hk : Rows.uptoSmall H (ds ++ gs) = true) :
    Calls Try.prog 4 args W fun e W' => ∃ v, e = .returned v ∧ Rows.ringPartsSpec.post enc Try.prog Try.f4 false true false false W args v W' := by
  have hW' := hW
  have hlt := fun p hp => hW.lt p hp
  obtain ⟨p, q, hA0, hV, rfl, hfz, hnd⟩ := hW
  have hA : DataW.TrodAll enc Try.prog W 0 (fun _ => true) true Try.f4.params.toList args.toList ds p := hA0
  rw [Try.params4] at hA hval
  obtain ⟨v0, vs0, d0, ds0, p0, q0, hargs0, hd0, hp0, h0, r0⟩ := trodAll_cons hA
  obtain ⟨hvn, hdn, hpn⟩ := trodAll_nil r0
  have hds : ds = [d0] := by simp_all
  obtain rfl : args = #[v0] := by cases args; simp_all
  subst hds
  obtain ⟨hgs, hq⟩ := trodVars_none hV
  subst hgs
  have hbulk := of_decide_eq_true hk
  simp only [List.append_nil] at hbulk
  have hb0 : Rows.uptoBulk d0 ≤ 1048576 := Nat.le_trans (bulk_part (by simp)) hbulk
  obtain ⟨fu0, hf0⟩ := h0
  obtain ⟨key, rfl⟩ := WideShapes.okWide_string Try.underlying9 (hval 0 9 v0 rfl rfl)
  obtain ⟨x0, ⟨he0, hx0⟩, _⟩ := (opens_str Try.underlying9) H enc W _ _ _ _ _ _ hf0 hb0
  obtain rfl : key = x0 := by simpa [Value.cells] using he0
  refine (t_firthlaw12_RingParts (Γ := Gh.all W) key hx0 (Sat.all W) (p_firthlaw12_RingParts (Γ := Gh.all W) key hx0 )).mono fun e W' ⟨he, hf⟩ => ?_
  subst he
  exact ⟨_, rfl, post_of_below (pa := p) (pv := []) hW' (fun _ _ _ => (trodAll_cons_mk (shut_bool Try.underlying4 _) trodAll_mk0)) (fun sp hsp => trodAll_below laidOut_ hf.below (by kernel_rfl) hA0 (fun x hx => hlt x (List.mem_append.2 (.inl hx))) sp (fun x hx => hsp x (List.mem_append.2 (.inl hx)))) (fun _ _ => rfl) (by rw [hq]) hf.below (ok_one (by kernel_rfl) rfl (okWide_bool_mk Try.underlying4 _))⟩
set_option maxRecDepth 100000 in
theorem RingParts_lifted (os : Os) (started : os.Started) (H : Type) (enc : TypeId × Value → H) (F : Stop.Interp) :
    ReturnsInHanded {} Try.checked os 4 .any ((Rows.OpenSpec.upto Rows.ringPartsSpec).pre6 enc Try.prog Try.f4 Rows.ringPartsUptoRow.domain false) (((Rows.OpenSpec.upto Rows.ringPartsSpec).at F).post enc Try.prog Try.f4 false true false false) := by
  refine returnsInHanded_of_cond (C := Try.checked) (s := Rows.OpenSpec.upto Rows.ringPartsSpec) (k := Rows.uptoSmall) rfl own_ started (by kernel_rfl) Try.func4
    (OpenSpec.witness (enc := enc) (C := Try.checked) (s := Rows.OpenSpec.upto Rows.ringPartsSpec) (k := Rows.uptoSmall) rfl false ⟨#[], #[.string ⟨#[]⟩], []⟩ 8 (by kernel_rfl) (by kernel_rfl) (by kernel_rfl)
      (x := ([.lit (.string [])], [], [])) (by kernel_rfl) rfl (by kernel_rfl)) ?_
  intro W base args ds gs before hval hW _ hk _
  exact RingParts_contract H enc W base args ds gs before hval hW hk
theorem RingParts_over : Rows.ringPartsUptoRow.holds Try.pinned (Rows.OpenSpec.upto Rows.ringPartsSpec) :=
  OpenClaim.holds_of_cond 4 Try.f4 rfl rfl rfl rfl rfl rfl rfl ⟨rfl, rfl, rfl, rfl, rfl⟩ rfl rfl rfl rfl rfl (by kernel_rfl) Try.func4 (by kernel_rfl)
    (of_decide_eq_true (by kernel_rfl)) (by unfold Func.isWrapper; first | (rw [if_pos (by decide +kernel)]; kernel_rfl) | (rw [if_neg (by decide +kernel)]; exact ⟨rfl, rfl⟩))
    (fun os started H enc _ F => RingParts_lifted os started H enc F)
theorem RingParts_proved : Rows.RingPartsUptoSaid := RingParts_over
end Fw
theorem RingParts_holds : Rows.RingPartsUptoSaid := Fw.RingParts_proved
end Go.Proofs.Ytdhenoidmialaaa
