/- TreeKeeps: what comes of the walk that writes over what was handed in and what was told. No condition. -/
import Derived.Test.YtmmnpinpcgidnaaGreatP21
namespace Go.Proofs.YtmmnpinpcgidnaaGreat
namespace Fw
set_option linter.unusedVariables false
set_option linter.unusedSimpArgs false
set_option linter.unusedSectionVars false

theorem own_loop {k : ByteArray} : ∀ (l : List Ver) (i : Nat) (out : List Ver), (∀ v ∈ l, v.past.length ≤ lim) → out.length + l.length ≤ lim → forI m_firthref10_Own_b1 (fun x6 => some (⟨k, x6⟩ : Rec)) i l out = some ⟨k, out ++ l⟩
  | [], i, out, _, _ => by rw [List.append_nil]; rfl
  | v :: l, i, out, h, hl => by
    rw [List.length_cons] at hl
    have ih := own_loop (k := k) l (i + 1) (out ++ [v]) (fun x hx => h x (List.mem_cons_of_mem _ hx)) (by rw [List.length_append, List.length_singleton]; omega)
    show chk (decide (0 + v.past.length ≤ lim)) (chk (decide (out.length + 1 ≤ lim)) (forI m_firthref10_Own_b1 (fun x6 => some (⟨k, x6⟩ : Rec)) (i + 1) l (out ++ [v]))) = _
    rw [decide_eq_true (show 0 + v.past.length ≤ lim by rw [Nat.zero_add]; exact h v List.mem_cons_self), decide_eq_true (show out.length + 1 ≤ lim by omega)]
    show forI m_firthref10_Own_b1 (fun x6 => some (⟨k, x6⟩ : Rec)) (i + 1) l (out ++ [v]) = _
    rw [ih, List.append_assoc]
    rfl
theorem e_ownR {Γ : Gh} {A : Option Addr} {c : Nat} {r : Rec} (h : Rec.fits Γ A c r) : m_firthref10_Own r = some r := by
  have h2 := h.2.2
  unfold m_firthref10_Own
  rw [own_loop r.vers 0 [] (fun v hv => ?_) (by rw [List.length_nil, Nat.zero_add]; exact h2.le), List.nil_append]
  obtain ⟨i, hi, rfl⟩ := List.getElem_of_mem hv
  obtain ⟨A2, c2, h3⟩ := h2.verT_at i
  have h4 := (h3 hi).1
  rw [← gt_eq hi]
  exact h4.2.2.1.2.le
theorem p_firthlaw11_TreeKeeps {Γ : Gh} {Ar_1 : Option Addr} {cr_1 : Nat} (r_ : Rec) (hr_ : Rec.fits Γ Ar_1 cr_1 r_) (hb : Rec.bk r_ ≤ 1048576) : m_firthlaw11_TreeKeeps r_ = some true := by
  have hk := fits_recOk hr_
  unfold m_firthlaw11_TreeKeeps
  rw [awake11, Option.bind_some, e_rRec hk]
  cases hrr : rr r_ with
  | false => rfl
  | true =>
    obtain ⟨o, h1, hG⟩ := e_New_t (list := [r_]) (fun r hr => by rw [List.mem_singleton.1 hr]; exact hk) (fun r hr => by rw [List.mem_singleton.1 hr]; exact hrr)
    have hw : addL [r_] = withr [] r_ := rfl
    rw [hw] at hG
    have hl : (withr [] r_).length ≤ 1 := by rw [← hw]; exact addL_len [r_]
    have hg : gcall (!(!true)) (some true) = some true := rfl
    rw [hg, Option.bind_some, Bool.not_true, Bool.or_false, cond_false, e_ownR hr_, Option.bind_some, h1, Option.bind_some]
    simp only [Option.isNone_some, bne_self_eq_false, Bool.or_false, cond_false, Option.bind_some]
    rw [e_Recs hG (by rw [lim_v]; omega), Option.bind_some, e_With (by rw [lim_v]; decide), Option.bind_some, Option.bind_some]
    generalize withr [] r_ = L at *
    have hA : Rcs L := ⟨fun r hr => ⟨(hG.ok r hr).1, (hG.ok r hr).2.1⟩, by omega⟩
    have hf : (bif okP [] then L.filter (inP []) else []) = L := by
      rw [show okP [] = true from rfl, cond_true]
      exact List.filter_eq_self.2 fun r hr => rfl
    rw [hf, e_SameRecs]
    obtain ⟨o3, e3, g3⟩ := e_THash1 (by omega) hG []
    rw [Option.bind_some, cond_true, e3, Option.bind_some, e_rH hA, Option.bind_some]
    simp only [beq_self_eq_true]
end Fw
end Go.Proofs.YtmmnpinpcgidnaaGreat
