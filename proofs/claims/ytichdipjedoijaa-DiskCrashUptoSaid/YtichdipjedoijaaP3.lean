/- What a change does to a map, and to the document's files. No condition. -/
import Derived.Test.YtichdipjedoijaaP2
namespace Go.Proofs.Ytichdipjedoijaa
namespace Fw
set_option linter.unusedVariables false
set_option linter.unusedSimpArgs false
set_option linter.unusedSectionVars false

abbrev Cg := Cdisk_change_do
/-- what a change does -/
def ap : Cg → Mp → Mp
  | .disk_Disk_Rename_1 a b, es => mput b ((mget a es).getD []) (mdel a es)
  | .disk_Disk_Remove_1 a, es => mdel a es
  | .disk_add_1 n b, es => mput n ((mget n es).getD [] ++ b) es
  | .disk_Disk_Cut_1 n k, es => mput n (((mget n es).getD []).take k.toNat) es
def okc : Cg → Mp → Prop
  | .disk_Disk_Cut_1 n k, es => (mget n es).isSome = true ∧ 0 ≤ k ∧ k ≤ (((mget n es).getD []).length : Int)
  | .disk_Disk_Rename_1 a b, es => (mget a es).isSome = true
  | .disk_Disk_Remove_1 a, es => (mget a es).isSome = true
  | _, _ => True
/-- the same change, of the document -/
def Corr : Cg → Ch → Prop
  | .disk_Disk_Rename_1 a b, t => t.kind = 3 ∧ t.name = a ∧ t.to_ = b
  | .disk_Disk_Remove_1 a, t => t.kind = 4 ∧ t.name = a
  | .disk_add_1 n b, t => t.kind = 1 ∧ t.name = n ∧ t.data = b
  | .disk_Disk_Cut_1 n k, t => t.kind = 2 ∧ t.name = n ∧ t.n = k
theorem ap_nk {c : Cg} {es : Mp} (h : NK es) : NK (ap c es) := by
  cases c with
  | disk_Disk_Rename_1 a b => exact h.del.put
  | disk_Disk_Remove_1 a => exact h.del
  | disk_add_1 n b => exact h.put
  | disk_Disk_Cut_1 n k => exact h.put
theorem ap_len {c : Cg} {es : Mp} : (ap c es).length ≤ es.length + 1 := by
  cases c with
  | disk_Disk_Rename_1 a b =>
    have h1 := len_mput (x := b) (v := (mget a es).getD []) (es := mdel a es)
    have h2 := len_mdel (x := a) (es := es)
    show (mput b ((mget a es).getD []) (mdel a es)).length ≤ _
    omega
  | disk_Disk_Remove_1 a => exact Nat.le_trans len_mdel (Nat.le_succ _)
  | disk_add_1 n b => exact len_mput
  | disk_Disk_Cut_1 n k => exact len_mput
theorem sz_add {n : ByteArray} {b : List UInt8} {es : Mp} : sz (ap (.disk_add_1 n b) es) = sz es + b.length := by
  have := sz_put (x := n) (v := (mget n es).getD [] ++ b) (es := es)
  rw [List.length_append] at this
  show sz (mput n _ es) = _
  omega
theorem sz_ren {a b : ByteArray} {es : Mp} : sz (ap (.disk_Disk_Rename_1 a b) es) ≤ sz es := by
  have h1 := sz_put (x := b) (v := (mget a es).getD []) (es := mdel a es)
  have h2 := sz_del (x := a) (es := es)
  show sz (mput b _ (mdel a es)) ≤ _
  omega
theorem sz_rem {a : ByteArray} {es : Mp} : sz (ap (.disk_Disk_Remove_1 a) es) ≤ sz es := by
  have h2 := sz_del (x := a) (es := es)
  show sz (mdel a es) ≤ _
  omega
theorem sz_cut {n : ByteArray} {k : Int} {es : Mp} : sz (ap (.disk_Disk_Cut_1 n k) es) ≤ sz es := by
  have h1 := sz_put (x := n) (v := ((mget n es).getD []).take k.toNat) (es := es)
  have h2 : (((mget n es).getD []).take k.toNat).length ≤ ((mget n es).getD []).length := by rw [List.length_take]; omega
  show sz (mput n _ es) ≤ _
  omega
theorem e_chg {c : Cg} {es : Mp} (hok : okc c es) (h : sz (ap c es) ≤ lim) : m_call_Cdisk_change_do c es = some (ap c es) := by
  cases c with
  | disk_Disk_Rename_1 a b => rfl
  | disk_Disk_Remove_1 a => rfl
  | disk_add_1 n b =>
    rw [sz_add] at h
    have := sz_get (x := n) (es := es)
    show m_disk_add_1 es n b = _
    unfold m_disk_add_1 m_slices_Clip_byte_byte
    rw [Option.bind_some, chk_t (by simp; omega)]; rfl
  | disk_Disk_Cut_1 n k =>
    obtain ⟨_, h1, h2⟩ := hok
    show m_disk_Disk_Cut_1 es n k = _
    unfold m_disk_Disk_Cut_1
    rw [chk_t (by simp [inle, h1, h2])]; rfl
theorem e_did {c : Cg} {t : Ch} {es : Mp} (hn : NK es) (hc : Corr c t) (hok : okc c es) (h1 : sz es ≤ lim) (h2 : sz (ap c es) ≤ lim) (h3 : es.length + 1 ≤ lim) : m_firthref07_did (FM es) t = some (FM (ap c es)) := by
  have hd : m_firthref07_data (FM es) t.name = some ((mget t.name es).getD []) := by rw [e_data (dl_FM h1), lk_FM hn]
  have hl : (FM es).length + 1 ≤ lim := by rw [len_FM]; exact h3
  unfold m_firthref07_did
  cases c with
  | disk_add_1 n b =>
    obtain ⟨hk, rfl, rfl⟩ := hc
    rw [sz_add] at h2
    have := sz_get (x := t.name) (es := es)
    rw [bif_t (by rw [hk]; rfl), hd, Option.bind_some, chk_t (by simp; omega), e_with hl, Option.bind_some, ins_FM hn]; rfl
  | disk_Disk_Cut_1 n k =>
    obtain ⟨hk, rfl, rfl⟩ := hc
    obtain ⟨_, q1, q2⟩ := hok
    rw [bif_f (by rw [hk]; rfl), bif_t (by rw [hk]; rfl), hd, Option.bind_some, chk_t (by simp [inle, q1, q2]), e_with hl, Option.bind_some, ins_FM hn]; rfl
  | disk_Disk_Rename_1 a b =>
    obtain ⟨hk, rfl, rfl⟩ := hc
    have hl2 : (FM (mdel t.name es)).length + 1 ≤ lim := by
      rw [len_FM]; have := len_mdel (x := t.name) (es := es); omega
    rw [bif_f (by rw [hk]; rfl), bif_f (by rw [hk]; rfl), bif_t (by rw [hk]; rfl), hd, Option.bind_some, e_without (by omega), Option.bind_some, wo_FM hn, e_with hl2, Option.bind_some, ins_FM hn.del]; rfl
  | disk_Disk_Remove_1 a =>
    obtain ⟨hk, rfl⟩ := hc
    rw [bif_f (by rw [hk]; rfl), bif_f (by rw [hk]; rfl), bif_f (by rw [hk]; rfl), e_without (by omega), Option.bind_some, wo_FM hn]; rfl

/-! ### many changes -/
abbrev Dc := Ddisk_change
def run (cs : List Dc) (es : Mp) : Mp := cs.foldl (fun es c => ap c.do_ es) es
theorem run_nil {es : Mp} : run [] es = es := rfl
theorem run_snoc {cs : List Dc} {c : Dc} {es : Mp} : run (cs ++ [c]) es = ap c.do_ (run cs es) := by simp [run, List.foldl_append]
theorem run_take {cs : List Dc} {k : Nat} {es : Mp} (h : k < cs.length) : run (cs.take (k + 1)) es = ap (gt cs k).do_ (run (cs.take k) es) := by rw [take_gt h, run_snoc]
theorem run_nk {cs : List Dc} {es : Mp} (h : NK es) : NK (run cs es) := by
  induction cs generalizing es with
  | nil => exact h
  | cons c cs ih => exact ih (ap_nk h)
/-- what a change keeps of itself -/
def Tl (c : Dc) : Prop := match c.do_ with
  | .disk_add_1 n b => c.name = n ∧ c.tail = b
  | _ => c.tail = []
structure Good (R N : Nat) (es : Mp) (cs : List Dc) (ts : List Ch) : Prop where
  len : cs.length = ts.length
  nk : NK es
  sz : ∀ k, k ≤ cs.length → sz (run (cs.take k) es) ≤ R
  ln : ∀ k, k ≤ cs.length → (run (cs.take k) es).length ≤ N
  ok : ∀ k, k < cs.length → okc (gt cs k).do_ (run (cs.take k) es)
  cor : ∀ k, k < cs.length → Corr (gt cs k).do_ (gt ts k) ∧ Tl (gt cs k)
theorem Good.nil {R N : Nat} {es : Mp} (hn : NK es) (h1 : Fw.sz es ≤ R) (h2 : es.length ≤ N) : Good R N es [] [] :=
  ⟨rfl, hn, fun k hk => by simpa [run] using h1, fun k hk => by simpa [run] using h2, fun k hk => absurd hk (Nat.not_lt_zero _), fun k hk => absurd hk (Nat.not_lt_zero _)⟩
theorem Good.mono {R N M : Nat} {es : Mp} {cs : List Dc} {ts : List Ch} (h : Good R N es cs ts) (hm : N ≤ M) : Good R M es cs ts :=
  ⟨h.len, h.nk, h.sz, fun k hk => Nat.le_trans (h.ln k hk) hm, h.ok, h.cor⟩
theorem Good.snoc {R N : Nat} {es : Mp} {cs : List Dc} {ts : List Ch} {c : Dc} {t : Ch} (h : Good R N es cs ts) (h1 : Fw.sz (ap c.do_ (run cs es)) ≤ R) (h2 : okc c.do_ (run cs es)) (h3 : Corr c.do_ t) (h4 : Tl c) : Good R (N + 1) es (cs ++ [c]) (ts ++ [t]) := by
  have hk : ∀ k, k ≤ (cs ++ [c]).length → k ≤ cs.length ∧ (cs ++ [c]).take k = cs.take k ∨ k = cs.length + 1 ∧ (cs ++ [c]).take k = cs ++ [c] := fun k hk => by
    rw [List.length_append] at hk
    simp only [List.length_cons, List.length_nil] at hk
    rcases Nat.lt_or_ge cs.length k with h | h
    · right; exact ⟨by omega, List.take_of_length_le (by simp; omega)⟩
    · left; exact ⟨h, by rw [List.take_append_of_le_length h]⟩
  have hg : ∀ k, k < (cs ++ [c]).length → k < cs.length ∧ gt (cs ++ [c]) k = gt cs k ∧ gt (ts ++ [t]) k = gt ts k ∨ k = cs.length ∧ gt (cs ++ [c]) k = c ∧ gt (ts ++ [t]) k = t := fun k hk => by
    rw [List.length_append] at hk
    simp only [List.length_cons, List.length_nil] at hk
    rcases Nat.lt_or_ge k cs.length with h5 | h5
    · left; exact ⟨h5, gt_append_left h5, gt_append_left (by rw [← h.len]; exact h5)⟩
    · right
      have : k = cs.length := by omega
      subst this
      refine ⟨rfl, ?_, ?_⟩
      · rw [gt_append_right (Nat.le_refl _), Nat.sub_self]; rfl
      · rw [h.len, gt_append_right (Nat.le_refl _), Nat.sub_self]; rfl
  refine ⟨by simp [h.len], h.nk, fun k q => ?_, fun k q => ?_, fun k q => ?_, fun k q => ?_⟩
  · rcases hk k q with ⟨a, b⟩ | ⟨a, b⟩
    · rw [b]; exact h.sz k a
    · rw [b, run_snoc]; exact h1
  · rcases hk k q with ⟨a, b⟩ | ⟨a, b⟩
    · rw [b]; exact Nat.le_trans (h.ln k a) (Nat.le_succ _)
    · rw [b, run_snoc]
      have := h.ln cs.length (Nat.le_refl _)
      rw [List.take_length] at this
      have h6 := ap_len (c := c.do_) (es := run cs es)
      omega
  · rcases hg k q with ⟨a, b, _⟩ | ⟨a, b, _⟩
    · rw [b, List.take_append_of_le_length (Nat.le_of_lt a)]; exact h.ok k a
    · rw [b, a, List.take_append_of_le_length (Nat.le_refl _), List.take_length]; exact h2
  · rcases hg k q with ⟨a, b, b2⟩ | ⟨a, b, b2⟩
    · rw [b, b2]; exact h.cor k a
    · rw [b, b2]; exact ⟨h3, h4⟩
theorem Good.step {R N : Nat} {es : Mp} {cs : List Dc} {ts : List Ch} {k : Nat} (h : Good R N es cs ts) (hk : k < cs.length) (hR : R ≤ lim) (hN : N + 1 ≤ lim) :
    m_call_Cdisk_change_do (gt cs k).do_ (run (cs.take k) es) = some (run (cs.take (k + 1)) es) ∧ m_firthref07_did (FM (run (cs.take k) es)) (gt ts k) = some (FM (run (cs.take (k + 1)) es)) := by
  have h1 := h.sz k (Nat.le_of_lt hk)
  have h2 := h.sz (k + 1) hk
  have h3 := h.ln k (Nat.le_of_lt hk)
  rw [run_take hk] at h2 ⊢
  exact ⟨e_chg (h.ok k hk) (Nat.le_trans h2 hR), e_did (run_nk h.nk) (h.cor k hk).1 (h.ok k hk) (Nat.le_trans h1 hR) (Nat.le_trans h2 hR) (by omega)⟩
end Fw
end Go.Proofs.Ytichdipjedoijaa
