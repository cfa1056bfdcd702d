/- The disk's acts, and the document's, side by side. No condition. -/
import Derived.Test.YtichdipjedoijaaP3
namespace Go.Proofs.Ytichdipjedoijaa
namespace Fw
set_option linter.unusedVariables false
set_option linter.unusedSimpArgs false
set_option linter.unusedSectionVars false

abbrev Dk := Odisk_Disk
abbrev Md := Ofirthref07_Disk
def okn (n : ByteArray) : Bool := decide (1 ≤ n.size) && decide (n.size ≤ 16)
theorem lim_v : lim = 2147483648 := lim_eq
theorem okn_not (s : ByteArray) : (decide (((s.size : Nat) : Int) < 1) || decide (16 < ((s.size : Nat) : Int))) = !okn s := by
  unfold okn
  rw [Bool.eq_iff_iff]
  simp only [Bool.or_eq_true, decide_eq_true_eq, Bool.not_eq_true', Bool.and_eq_false_iff, decide_eq_false_iff_not]
  omega
theorem e_right (l : List ByteArray) : m_disk_right l = some (l.all okn) := by
  unfold m_disk_right
  refine (forI_inv (fun i _ => some ((l.drop i).all okn)) (fun _ _ => True) (fun s _ => ?_) (fun f i s hi _ hf => ?_) trivial)
  · rw [List.drop_of_length_le (Nat.le_refl _)]; rfl
  · unfold m_disk_right_b1
    rw [hf () trivial, drop_gt hi, List.all_cons]
    rw [okn_not]
    cases okn (gt l i) <;> rfl
theorem ba_empty {s : ByteArray} : s = ByteArray.empty ↔ s.size = 0 := by
  constructor
  · rintro rfl; rfl
  · intro h
    apply ba_inj
    have : s.data.toList.length = 0 := h
    rw [List.eq_nil_of_length_eq_zero this]; rfl
theorem e_wrong (n : ByteArray) : m_firthref07_wrong n = some (!okn n) := by
  unfold m_firthref07_wrong okn
  congr 1
  rw [Bool.eq_iff_iff]
  simp only [Bool.or_eq_true, beq_iff_eq, decide_eq_true_eq, Bool.not_eq_true', Bool.and_eq_false_iff, decide_eq_false_iff_not, ba_empty]
  omega
theorem e_cln {l : List UInt8} (h : l.length ≤ lim) : m_slices_Clone_byte_byte l = some l := by
  unfold m_slices_Clone_byte_byte nilc
  cases l with
  | nil => rfl
  | cons x l => rw [chk_t (by simpa using h)]; rfl
theorem fld_used : ∀ (es : Mp) (n : Int), 0 ≤ n → n + (sz es : Int) ≤ 4611686018427387904 → fldO m_disk_Disk_Used_b1 n es = some (n + (sz es : Int))
  | [], n, _, _ => by simp [fldO, sz]
  | p :: es, n, h0, h1 => by
    have hs : sz (p :: es) = p.2.length + sz es := by simp [sz]
    rw [hs] at h1 ⊢
    unfold fldO m_disk_Disk_Used_b1
    rw [Option.bind_some, w64_i (by unfold I64; omega)]
    have := fld_used es (n + (p.2.length : Int)) (by omega) (by omega)
    unfold m_disk_Disk_Used_b1 at this
    rw [this]; congr 1; omega
theorem e_used {d : Dk} (h : sz d.seen ≤ lim) : m_disk_Disk_Used d = some (sz d.seen : Int) := by
  unfold m_disk_Disk_Used
  rw [lim_v] at h
  rw [fld_used _ _ (Int.le_refl 0) (by omega), Option.bind_some, Int.zero_add]
def lsum (l : List Fl) : Nat := (l.map (·.data.length)).sum
theorem lsum_FM {es : Mp} (hn : NK es) : lsum (FM es) = sz es := by
  have h1 : (FM es).Nodup := (sf_FM hn).imp fun {a b} h e => by rw [e] at h; exact lt_irr _ h
  have h2 : (es.map fun p => (⟨p.1, p.2⟩ : Fl)).Nodup := by
    unfold NK at hn
    refine List.Pairwise.map _ (fun a b h e => ?_) (List.pairwise_map.1 hn)
    injection e with e1 _
    exact h e1
  have h3 : (FM es).Perm (es.map fun p => (⟨p.1, p.2⟩ : Fl)) := by
    rw [List.perm_ext_iff_of_nodup h1 h2]
    intro f
    rw [mem_FM, List.mem_map]
    constructor
    · intro h; exact ⟨_, mem_of_mget h, rfl⟩
    · rintro ⟨p, hp, rfl⟩; exact mget_of_mem hn hp
  unfold lsum sz
  rw [(h3.map _).sum_nat, List.map_map]; rfl
theorem e_lused {l : List Fl} {K : Int → Option Int} (h : lsum l ≤ 4611686018427387904) : forI m_firthref07_Disk_Used_b1 K 0 l 0 = K (lsum l : Int) := by
  have key : ∀ (l : List Fl) (i : Nat) (n : Int), 0 ≤ n → n + (lsum l : Int) ≤ 4611686018427387904 → forI m_firthref07_Disk_Used_b1 K i l n = K (n + (lsum l : Int)) := by
    intro l
    induction l with
    | nil => intro i n _ _; simp [forI, lsum]
    | cons f l ih =>
      intro i n h0 h1
      have hs : lsum (f :: l) = f.data.length + lsum l := by simp [lsum]
      rw [hs] at h1 ⊢
      unfold forI m_firthref07_Disk_Used_b1
      rw [w64_i (by unfold I64; omega)]
      have := ih (i + 1) (n + (f.data.length : Int)) (by omega) (by omega)
      unfold m_firthref07_Disk_Used_b1 at this
      rw [this]; congr 1; omega
  rw [key l 0 0 (Int.le_refl 0) (by omega), Int.zero_add]

/-- a disk, and the document's -/
structure Rel (R N : Nat) (d : Dk) (m : Md) : Prop where
  rd : d.room = (R : Int)
  rm : m.room = (R : Int)
  seen : d.seen = run d.loose d.safe_
  safe : m.safe_ = FM d.safe_
  good : Good R N d.safe_ d.loose m.todo
  ll : d.loose.length ≤ N
section
variable {R N : Nat} {d : Dk} {m : Md}
theorem Rel.mono (h : Rel R N d m) {M : Nat} (hm : N ≤ M) : Rel R M d m := ⟨h.rd, h.rm, h.seen, h.safe, h.good.mono hm, Nat.le_trans h.ll hm⟩
theorem Rel.nk (h : Rel R N d m) : NK d.seen := by rw [h.seen]; exact run_nk h.good.nk
theorem Rel.sz (h : Rel R N d m) : sz d.seen ≤ R := by
  rw [h.seen]
  have := h.good.sz d.loose.length (Nat.le_refl _)
  rwa [List.take_length] at this
theorem Rel.ln (h : Rel R N d m) : d.seen.length ≤ N := by
  rw [h.seen]
  have := h.good.ln d.loose.length (Nat.le_refl _)
  rwa [List.take_length] at this
theorem Rel.files (h : Rel R N d m) (hR : R ≤ lim) (hN : N + 1 ≤ lim) : m_firthref07_Disk_Files m = some (FM d.seen) := by
  unfold m_firthref07_Disk_Files
  refine forI_run (fun i l => l = FM (run (d.loose.take i) d.safe_)) (fun l hl => ?_) (fun f i l hi hl hf => ?_) (by rw [h.safe]; rfl)
  · rw [hl, h.seen, ← h.good.len, List.take_length]
  · subst hl
    rw [← h.good.len] at hi
    unfold m_firthref07_Disk_Files_b1
    rw [(h.good.step hi hR hN).2, Option.bind_some]
    exact hf _ rfl
theorem Rel.used (h : Rel R N d m) (hR : R ≤ lim) (hN : N + 1 ≤ lim) : m_firthref07_Disk_Used m = some (Fw.sz d.seen : Int) := by
  unfold m_firthref07_Disk_Used
  have := h.sz
  rw [lim_v] at hR
  rw [h.files (by rw [lim_v]; omega) hN, Option.bind_some, e_lused (by rw [lsum_FM h.nk]; omega), lsum_FM h.nk]

/-! ### acts -/
def dDone (d : Dk) (c : Dc) : Dk := ⟨d.room, d.safe_, ap c.do_ d.seen, d.loose ++ [c]⟩
def dApp (d : Dk) (n : ByteArray) (b : List UInt8) : Dk × Int :=
  bif !okn n then (d, 70) else bif decide (d.room - (sz d.seen : Int) < (b.length : Int)) then (d, 72) else (dDone d ⟨.disk_add_1 n b, n, b⟩, 0)
def dThere (d : Dk) (n : ByteArray) : Int := bif !okn n then 70 else bif !(mget n d.seen).isSome then 71 else 0
def dCut (d : Dk) (n : ByteArray) (k : Int) : Dk × Int :=
  bif dThere d n != 0 then (d, dThere d n) else bif decide (k < 0) || decide (((((mget n d.seen).getD []).length : Nat) : Int) < k) then (d, 1) else (dDone d ⟨.disk_Disk_Cut_1 n k, ByteArray.empty, []⟩, 0)
def dRen (d : Dk) (a b : ByteArray) : Dk × Int :=
  bif !(okn a && okn b) then (d, 70) else bif dThere d a != 0 then (d, dThere d a) else (dDone d ⟨.disk_Disk_Rename_1 a b, ByteArray.empty, []⟩, 0)
def dRem (d : Dk) (n : ByteArray) : Dk × Int :=
  bif dThere d n != 0 then (d, dThere d n) else (dDone d ⟨.disk_Disk_Remove_1 n, ByteArray.empty, []⟩, 0)
theorem e_done (h : Rel R N d m) (hR : R ≤ lim) (hN : N + 1 ≤ lim) {c : Dc} (h1 : Fw.sz (ap c.do_ d.seen) ≤ R) (h2 : okc c.do_ d.seen) : m_disk_Disk_done d c = some (dDone d c, 0) := by
  unfold m_disk_Disk_done
  have := h.ll
  rw [e_chg h2 (Nat.le_trans h1 hR), Option.bind_some, chk_t (by simp; omega)]; rfl
theorem Rel.done (h : Rel R N d m) {c : Dc} {t : Ch} (h1 : Fw.sz (ap c.do_ d.seen) ≤ R) (h2 : okc c.do_ d.seen) (h3 : Corr c.do_ t) (h4 : Tl c) : Rel R (N + 1) (dDone d c) ⟨m.room, m.safe_, m.todo ++ [t]⟩ := by
  have hs := h.seen
  refine ⟨h.rd, h.rm, ?_, h.safe, ?_, ?_⟩
  · show ap c.do_ d.seen = run (d.loose ++ [c]) d.safe_
    rw [run_snoc, ← hs]
  · rw [hs] at h1 h2
    exact h.good.snoc h1 h2 h3 h4
  · show (d.loose ++ [c]).length ≤ _
    have := h.ll
    simp; omega
end
end Fw
end Go.Proofs.Ytichdipjedoijaa
