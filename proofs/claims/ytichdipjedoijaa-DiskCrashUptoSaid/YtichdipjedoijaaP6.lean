/- Crash, Sync, and what is read. No condition. -/
import Derived.Test.YtichdipjedoijaaP5
namespace Go.Proofs.Ytichdipjedoijaa
namespace Fw
set_option linter.unusedVariables false
set_option linter.unusedSimpArgs false
set_option linter.unusedSectionVars false

theorem len_mput_v {κ α : Type} [DecidableEq κ] {x : κ} {v w : α} : ∀ {es : List (κ × α)}, (mput x v es).length = (mput x w es).length
  | [] => rfl
  | p :: es => by
    unfold mput
    split
    · rfl
    · exact congrArg (· + 1) (len_mput_v (x := x) (v := v) (w := w) (es := es))
theorem FM_nil : FM [] = [] := List.eq_nil_of_length_eq_zero (by rw [len_FM]; rfl)
section
variable {R N : Nat} {d : Dk} {m : Md}
def dSync (d : Dk) : Dk := ⟨d.room, d.seen, d.seen, []⟩
theorem e_Sync : m_disk_Disk_Sync d = some (dSync d) := rfl
theorem r_Sync (h : Rel R N d m) (hR : R ≤ MX) (hN : N + 1 ≤ lim) : ∃ m', m_firthref07_Disk_Sync m = some m' ∧ Rel R N (dSync d) m' := by
  unfold m_firthref07_Disk_Sync
  rw [h.files (MX_lim hR) hN]
  exact ⟨_, rfl, h.rd, h.rm, rfl, rfl, Good.nil h.nk h.sz h.ln, Nat.zero_le _⟩
def dWipe (d : Dk) : Dk := ⟨d.room, [], [], []⟩
theorem e_Wipe : m_disk_Disk_Wipe d = some (dWipe d) := rfl
theorem r_Wipe (h : Rel R N d m) : ∃ m', m_firthref07_Disk_Wipe m = some m' ∧ Rel R N (dWipe d) m' :=
  ⟨_, rfl, h.rd, h.rm, rfl, FM_nil.symm, Good.nil NK.nil (Nat.zero_le _) (Nat.zero_le _), Nat.zero_le _⟩
theorem e_Read (h : Rel R N d m) (hR : R ≤ MX) (n : ByteArray) : m_disk_Disk_Read d n = some ((mget n d.seen).getD [], (mget n d.seen).isSome) := by
  unfold m_disk_Disk_Read
  rw [e_cln (Nat.le_trans sz_get (Nat.le_trans h.sz (MX_lim hR)))]; rfl
theorem e_Names (h : Rel R N d m) (hN : N + 1 ≤ lim) : m_disk_Disk_Names d = some (skeys d.seen) := by
  unfold m_disk_Disk_Names
  have := h.ln
  rw [chk_t (by simp; omega)]
theorem e_Files (h : Rel R N d m) (hR : R ≤ MX) (hN : N + 1 ≤ lim) : m_firthlaw07_Files d = some (FM d.seen) := by
  unfold m_firthlaw07_Files
  have hln := h.ln
  rw [e_Names h hN, Option.bind_some]
  refine forI_run (fun i out => out = ((skeys d.seen).take i).map fun k => (⟨k, (mget k d.seen).getD []⟩ : Fl)) (fun s hs => ?_) (fun f i s hi hI hf => ?_) rfl
  · rw [hs, List.take_length]; rfl
  · unfold m_firthlaw07_Files_b4 m_firthlaw07_Files_j5
    have hm : (mget (gt (skeys d.seen) i) d.seen).isSome = true := by
      rw [mget_isSome, ← mem_skeys, gt_eq hi]; exact List.getElem_mem hi
    rw [e_Read h hR, Option.bind_some]
    simp only [hm, cond_true]
    rw [skeys_len] at hi
    rw [chk_t (by rw [hI]; simp; omega)]
    refine hf _ ?_
    rw [hI, take_gt (by rw [skeys_len]; exact hi), List.map_append]; rfl
theorem e_Same (l l' : List Fl) : m_firthref07_Same l l' = some (decide (l = l')) := by
  unfold m_firthref07_Same
  cases hl : (((l.length : Nat) : Int) != ((l'.length : Nat) : Int)) with
  | true =>
    rw [bif_t rfl]
    rw [bne_iff_ne] at hl
    rw [decide_eq_false (fun e => hl (by rw [e]))]
  | false =>
    have hlen : l.length = l'.length := by
      have := of_decide_eq_false (p := ¬ ((l.length : Nat) : Int) = l'.length) (by rw [← hl]; simp [bne, BEq.beq])
      omega
    rw [bif_f rfl]
    refine (forI_inv (fun i _ => some (decide (l.drop i = l'.drop i))) (fun _ _ => True) (fun s _ => ?_) (fun f i s hi _ hf => ?_) trivial)
    · rw [List.drop_of_length_le (Nat.le_refl _), List.drop_of_length_le (by omega)]; rfl
    · unfold m_firthref07_Same_b1
      have hi' : i < l'.length := by omega
      rw [chk_t (by simpa using hi'), hf () trivial, drop_gt hi, drop_gt hi']
      have hb : ∀ a b : List UInt8, ((⟨a.toArray⟩ : ByteArray) != ⟨b.toArray⟩) = decide (a ≠ b) := by
        intro a b
        rw [Bool.eq_iff_iff, bne_iff_ne, decide_eq_true_eq]
        exact not_congr ⟨fun e => by have := congrArg (fun x : ByteArray => x.data.toList) e; simpa using this, fun e => by rw [e]⟩
      generalize gt l i = x
      generalize gt l' i = y
      rw [hb x.data y.data]
      simp only [List.cons.injEq]
      by_cases h1 : x.name = y.name
      · by_cases h2 : x.data = y.data
        · have : x = y := by cases x; cases y; simp_all
          subst this
          simp
        · have : x ≠ y := fun e => h2 (by rw [e])
          simp [this, h2]
      · have : x ≠ y := fun e => h1 (by rw [e])
        have h2 : (x.name != y.name) = true := bne_iff_ne.2 h1
        simp [this, h2]
end
end Fw
end Go.Proofs.Ytichdipjedoijaa
